/- A text behind its sign. The document's reading of a text. -/
import Derived.Outline
import Derived.Test.YtclainfdeghgnaaGreatDoorPZ4
import Derived.Test.YtclainfdeghgnaaGreatDoorPZ7
namespace Go.Proofs.YtclainfdeghgnaaGreatDoor
open Go.RowKit Go.Proofs.YtclainfdeghgnaaGreatDoor.Nm
theorem rdm_empty {m : ByteArray} (h : m.size = 0) : rdm m = none := by
  have : m.data.toList = [] := by
    have : m.data.toList.length = 0 := by simpa using h
    exact List.eq_nil_of_length_eq_zero this
  unfold rdm
  rw [this]
  exact rd_none (Or.inr (Or.inl (by simp [Lib.trimPrefix])))
/-- What a text is behind its sign. -/
structure Behind (m D : ByteArray) (s : Bool) : Prop where
  d : Lib.trimPrefix m.data.toList [45] = D.data.toList
  n : m.size = D.size + (if s then 1 else 0)
theorem Behind.long {m D : ByteArray} {s : Bool} (_ : Behind m D s) (h : 40 < m.size) : rdm m = none := rd_none (Or.inl (by simpa using h))
theorem Behind.none_ {m D : ByteArray} {s : Bool} (b : Behind m D s) (h : D.size = 0) : rdm m = none := rd_none (Or.inr (Or.inl (by
  rw [b.d]; exact List.eq_nil_of_length_eq_zero (by simpa using h))))
theorem Behind.zero {m D : ByteArray} {s : Bool} (b : Behind m D s) (h0 : 0 < D.size) (h : (D[0]'h0).toNat = 48) (h1 : 1 < m.size) : rdm m = none := rd_none (Or.inr (Or.inr (Or.inl ⟨by
  rw [b.d, List.head?_eq_getElem?, List.getElem?_eq_getElem (by simpa using h0)]
  congr 1
  exact UInt8.toNat_inj.1 h, fun e => by
  have : m.data.toList.length = 1 := by rw [e]; rfl
  simp at this; omega⟩)))
theorem Behind.bad {m D : ByteArray} {s : Bool} (b : Behind m D s) (h : D.data.toList.all okc = false) : rdm m = none := rd_none (Or.inr (Or.inr (Or.inr (by rw [b.d]; exact h))))
theorem Behind.good {m D : ByteArray} {s : Bool} (b : Behind m D s) (h40 : m.size ≤ 40) (h0 : 0 < D.size) (h : (D[0]'h0).toNat ≠ 48 ∨ m.size ≤ 1) (ha : D.data.toList.all okc = true) : rdm m = some (sg s (rv D.data.toList.reverse)) := by
  unfold rdm
  rw [rd_some (by
    rw [b.d]
    simp only [not_or]
    refine ⟨by simp; omega, ?_, ?_, by simp [ha]⟩
    · intro e
      have h9 : D.size = 0 := by have := congrArg List.length e; simpa using this
      omega
    · rintro ⟨h1, h2⟩
      rw [List.head?_eq_getElem?, List.getElem?_eq_getElem (by simpa using h0)] at h1
      have h3 : (D[0]'h0).toNat = 48 := by
        have := Option.some.inj h1
        have e : D.data.toList[0]'(by simpa using h0) = D[0]'h0 := rfl
        rw [e] at this
        rw [this]; rfl
      rcases h with h | h
      · exact h h3
      · apply h2
        have hn := b.n
        have hm1 : m.size = 1 := by omega
        have hs : s = false := by
          cases s
          · rfl
          · simp at hn; omega
        subst hs
        have hl : Lib.trimPrefix m.data.toList [45] = m.data.toList := by
          unfold Lib.trimPrefix
          split
          · exfalso
            have hd := b.d
            unfold Lib.trimPrefix at hd
            rw [if_pos ‹_›] at hd
            have : D.data.toList.length = m.data.toList.length - 1 := by rw [← hd]; simp
            simp at this hn; omega
          · rfl
        rw [← hl, b.d]
        have hD : D.data.toList.length = 1 := by simp at hn ⊢; omega
        match hx : D.data.toList, hD with
        | [x], _ =>
          have e : D.data.toList[0]'(by simpa using h0) = D[0]'h0 := rfl
          simp only [hx] at e
          simp at e
          rw [e]
          congr 1
          exact UInt8.toNat_inj.1 h3)]
  rw [b.d]
  congr 2
  have hn := b.n
  cases s
  · simp at hn ⊢; omega
  · simp at hn ⊢; omega
theorem behind_neg {m : ByteArray} (h0 : 0 < m.size) (hc : (m[0]'h0).toNat = 45) : Behind m (m.extract 1 m.size) true := by
  have h1 : m.data.toList ≠ [] := by
    intro e
    have := congrArg List.length e
    simp at this
    rw [this] at h0
    exact absurd h0 (by decide)
  obtain ⟨a, l, hl⟩ := List.exists_cons_of_ne_nil h1
  have ha : a = 45 := by
    have e : m.data.toList[0]'(by rw [hl]; simp) = m[0]'h0 := rfl
    simp only [hl] at e
    simp at e
    rw [e]
    exact UInt8.toNat_inj.1 hc
  refine ⟨?_, ?_⟩
  · have e : (m.extract 1 m.size).data.toList = m.data.toList.drop 1 := by
      rw [ByteArray.data_extract]
      simp
      rw [List.take_of_length_le (by simp)]
    rw [e, hl, ha]
    rfl
  · have : (m.extract 1 m.size).size = m.size - 1 := by simp
    rw [this, if_pos rfl]
    omega
theorem behind_pos {m : ByteArray} (h0 : 0 < m.size) (hc : (m[0]'h0).toNat ≠ 45) : Behind m m false := by
  refine ⟨?_, by simp⟩
  unfold Lib.trimPrefix
  rw [if_neg]
  intro hp
  have hl : m.data.toList.length = m.size := by simp
  match hm : m.data.toList with
  | [] => rw [hm] at hl; simp at hl; omega
  | a :: l =>
    rw [hm] at hp
    have e : m.data.toList[0]'(by rw [hm]; simp) = m[0]'h0 := rfl
    simp only [hm] at e
    simp at e
    have h2 : a = 45 := by
      have h3 := hp
      simp [Lib.hasPrefix] at h3
      first | exact h3 | exact h3.symm
    apply hc
    rw [← e, h2]
    rfl
end Go.Proofs.YtclainfdeghgnaaGreatDoor

namespace Go.Proofs.YtclainfdeghgnaaGreatDoor
open Go.RowKit Go.Proofs.YtclainfdeghgnaaGreatDoor.Nm Go.Proofs.YtclainfdeghgnaaGreatDoor.Lm
theorem built84z : Tryz.prog.built 41 [] = some (iv 0 none 0) := by rw [iv_zero]; kernel_rfl
theorem res_ivT {fn : Func} {p q : Tmp} (h : fn.results = #[.cell p 41, .tmp q]) (tmps : Array Value) (w : World) (g : Nat) (hp : tmps.getD p undef = .pointer (some ⟨g, 0, none⟩)) {z : Int} {A : Option Addr} {c : Nat}
    (hg : w.heap[g]? = some (.cells (iv z A c) 41 (0, 0))) : (results fn tmps).run Tryz.prog w = .ok (.tuple #[.agg (iv z A c), tmps.getD q undef]) w := by
  have hp' : tmps[p]?.getD undef = .pointer (some ⟨g, 0, none⟩) := by simpa using hp
  have l1 : (loadVar 41 ⟨g, 0, none⟩).run Tryz.prog w = .ok (.agg (iv z A c)) w := by have := rowIv hg; unfold RowAt at this; exact this
  rw [results_cell_tmp h]
  simp [hp', asAddr, l1, Result.andThen]
def xk (l : List UInt8) (k : Nat) : Int := ((rv (l.take k).reverse : Nat) : Int)
theorem xk_zero (l : List UInt8) : xk l 0 = 0 := by simp [xk, rv]
theorem xk_succ (l : List UInt8) (k : Nat) (c : UInt8) (hk : l[k]? = some c) (hc : 48 ≤ c.toNat) : xk l k * 10 + ((c.toNat : Int) - 48) = xk l (k + 1) := by
  unfold xk
  have h1 : l.take (k + 1) = l.take k ++ [c] := by rw [List.take_add_one, hk]; rfl
  rw [h1, List.reverse_append]
  simp only [List.reverse_cons, List.reverse_nil, List.nil_append, List.singleton_append, rv]
  omega
theorem xk_nl (l : List UInt8) (k : Nat) (hl : k ≤ 40) (h : ∀ c ∈ l.take k, okc c = true) : nl (xk l k).natAbs ≤ 5 := by
  unfold xk
  rw [Int.natAbs_natCast]
  refine nl_le _ _ ?_
  have h1 := rv_lt (l.take k).reverse (by simpa using h)
  have h2 : 10 ^ (l.take k).reverse.length ≤ 10 ^ 40 := Nat.pow_le_pow_right (by decide) (by simp; omega)
  have h3 : 10 ^ 40 < B ^ 5 := by decide
  omega
theorem iv_set {x : Array Value} (h : x = #[.bool false, .slice none 0 0] := by rfl) {t : TypeId} : some (Obj.cells x t (0, 0)) = some (Obj.cells (iv 0 none 0) t (0, 0)) := by rw [h, iv_zero]
theorem nl_mul (x y : Int) : nl (x * y).natAbs ≤ nl x.natAbs + nl y.natAbs + 1 := by
  rw [Int.natAbs_mul]
  exact nl_le _ _ (mul_lt_pow (nl_spec _) (nl_spec _))
theorem nl_small {z : Int} (h : z.natAbs ≤ 1000) : nl z.natAbs ≤ 1 := nl_le _ _ (by rw [Nat.pow_one, B_eq]; omega)
set_option maxHeartbeats 8000000 in
set_option maxRecDepth 100000 in
theorem ReadI_neg (m : ByteArray) (hms : 0 < m.size) (hc : ((m[0]'hms).toNat : Int) = 45) (D : ByteArray) (hD : D = m.extract 1 m.size) (HB : Hid (Behind m D true)) (w : World) :
    Calls Tryz.prog 13 #[.string m] w fun e w' => ∃ A c, e = .returned (.tuple #[.agg (iv ((rdm m).getD 0) A c), .bool (rdm m).isSome]) ∧ IvAt w' ((rdm m).getD 0) A c ∧ Below w.heap.size w w' := by
  have HD := Lib.hid hD
  clear hD
  go_enter Tryz.func13, Tryz.ntmps13
  go_upto_region 1 with (fail)
  refine wp_world (fun W => W.heap[w.heap.size]? = some (.cells (iv 0 none 0) 41 (0, 0)) ∧ Below w.heap.size w W) ⟨by rw [iv_zero]; exact ha_new rfl, (Below.refl _ _).alloc (Nat.le_refl _) _⟩ ?_
  rintro W ⟨h0, hb⟩
  go_upto_region 5 with (fail)
  rw [← HD.out]
  have hDS := HB.out.n
  by_cases h40 : 40 < m.size
  · have HN := Lib.hid (HB.out.long h40)
    clear hDS
    have h40' : (40 : Int) < (m.size : Int) := by omega
    have c0 := iv0 h0
    have c1 := iv1 h0
    have f0 : W.frozen? ⟨w.heap.size, 0, none⟩ = false := frozen_of_row _ _ _ _ _ h0
    have f1 : W.frozen? ⟨w.heap.size, 1, none⟩ = false := frozen_of_row _ _ _ _ _ h0
    go_wp2_with fail
    refine bodyPost_ret (res_ivT rfl _ _ w.heap.size rfl ((hs_new (hs_new h0)).trans iv_set)) rfl ?_
    rw [HN.out]
    exact ⟨none, 0, rfl, IvAt.zero _, (hb.setCell (by simp) _).setCell (by simp) _⟩
  by_cases hd0 : (D).size = 0
  · have HN := Lib.hid (HB.out.none_ hd0)
    have hd0' : (((D).size : Int) == 0) = true := by simp [hd0]
    clear hDS hd0
    have h40' : ¬ (40 : Int) < (m.size : Int) := by omega
    have c0 := iv0 h0
    have c1 := iv1 h0
    have f0 : W.frozen? ⟨w.heap.size, 0, none⟩ = false := frozen_of_row _ _ _ _ _ h0
    have f1 : W.frozen? ⟨w.heap.size, 1, none⟩ = false := frozen_of_row _ _ _ _ _ h0
    go_wp2_with fail
    refine bodyPost_ret (res_ivT rfl _ _ w.heap.size rfl ((hs_new (hs_new h0)).trans iv_set)) rfl ?_
    rw [HN.out]
    exact ⟨none, 0, rfl, IvAt.zero _, (hb.setCell (by simp) _).setCell (by simp) _⟩
  have hpos : 0 < (D).size := by omega
  have hne1 : (((D).size : Int) == 0) = false := by rw [beq_eq_false_iff_ne]; omega
  have hne2 : ¬ (D) = ByteArray.empty := by intro e; apply hd0; rw [e]; rfl
  by_cases hz : ((D)[0]'hpos).toNat = 48
  · by_cases h1 : 1 < m.size
    · have HN := Lib.hid (HB.out.zero hpos hz h1)
      clear hDS
      have hz' : (((D)[0]'hpos).toNat : Int) = 48 := by omega
      have h1' : (1 : Int) < (m.size : Int) := by omega
      have h40' : ¬ (40 : Int) < (m.size : Int) := by omega
      have c0 := iv0 h0
      have c1 := iv1 h0
      have f0 : W.frozen? ⟨w.heap.size, 0, none⟩ = false := frozen_of_row _ _ _ _ _ h0
      have f1 : W.frozen? ⟨w.heap.size, 1, none⟩ = false := frozen_of_row _ _ _ _ _ h0
      go_wp2_with fail
      refine bodyPost_ret (res_ivT rfl _ _ w.heap.size rfl ((hs_new (hs_new h0)).trans iv_set)) rfl ?_
      rw [HN.out]
      exact ⟨none, 0, rfl, IvAt.zero _, (hb.setCell (by simp) _).setCell (by simp) _⟩
    · have HG := Lib.hid (HB.out.good (by omega) hpos (Or.inr (by omega)))
      have hz' : (((D)[0]'hpos).toNat : Int) = 48 := by omega
      have h1' : ¬ (1 : Int) < (m.size : Int) := by omega
      have h40' : ¬ (40 : Int) < (m.size : Int) := by omega
      have hds : (D).size ≤ 40 := by omega
      clear hDS hd0
      go_upto_region 7 with (fail)
      clear hz hz' h1 h1' h40 h40'
      clear hne1 hne2
      apply wp_region_lit
      refine wl_val rfl (ex_build 41 _ rfl (L := []) rfl built84z) ?_
      simp only [put_lit, List.set_cons_zero, List.set_cons_succ]
      (have lth0p6 := heap_lt h0; have lsp6 := hb.size; (with_reducible apply wl_new84); intro w2 p6 hbn hlp6 hp6; replace h0 := below_look hbn h0; replace hb := hb.trans (hbn.mono hb.size); clear hbn)
      ((with_reducible apply wl_putI); exact rfl; exact rfl; exact hp6; intro w3 hbx hk hq hi; replace h0 := hk _ _ (by omega) h0; replace hb := hbx _ _ (by omega) hb; clear hp6; have hp6 := hq; clear hbx hk hq hi)
      go_wp2_with fail
      go_loopw [7] (fun i wr => ∃ (k : Nat) (A : Option Addr) (c : Nat), k ≤ (D).size ∧ i = .int .i64 (k : Int) ∧ Hid (∀ c ∈ (D).data.toList.take k, okc c = true) ∧ wr.heap[p6]? = some (.cells (iv (xk (D).data.toList k) A c) 41 (0, 0)) ∧ wr.heap[w.heap.size]? = some (.cells (iv 0 none 0) 41 (0, 0)) ∧ IvAt wr (xk (D).data.toList k) A c ∧ Below w.heap.size w wr) (fun i _ => ((D).size - intOf i).toNat)
      case atStart => exact ⟨0, none, 0, by omega, rfl, Lib.hid (by simp), by rw [xk_zero]; exact hp6, h0, by rw [xk_zero]; exact IvAt.zero _, hb⟩
      case round =>
        clear h0 hp6 hb
        obtain ⟨k, A, c, hk, rfl, HO, h6, h0, hI, hb⟩ := hrel
        by_cases hlt : k < (D).size
        · obtain ⟨b, hbb⟩ : ∃ b, b = ((D)[k]'hlt) := ⟨_, rfl⟩
          have hb0 : b.toNat < 256 := UInt8.toNat_lt b
          have HBB := Lib.hid hbb
          by_cases hlo : b.toNat < 48
          · have HN := Lib.hid (HB.out.bad (List.all_eq_false.2 ⟨b, by rw [hbb]; exact List.getElem_mem (l := (D).data.toList) (by simpa using hlt), by unfold okc; simp; omega⟩))
            have hlo' : (((D)[k]'hlt).toNat : Int) < 48 := by rw [← hbb]; omega
            clear hbb hI h6 hlo
            have c0 := iv0 h0
            have c1 := iv1 h0
            have f0 : wr.frozen? ⟨w.heap.size, 0, none⟩ = false := frozen_of_row _ _ _ _ _ h0
            have f1 : wr.frozen? ⟨w.heap.size, 1, none⟩ = false := frozen_of_row _ _ _ _ _ h0
            go_wp2_with fail
            refine bodyPost_ret (res_ivT rfl _ _ w.heap.size rfl ((hs_new (hs_new h0)).trans iv_set)) rfl ?_
            rw [HN.out]
            exact ⟨none, 0, rfl, IvAt.zero _, (hb.setCell (by simp) _).setCell (by simp) _⟩
          by_cases hhi : 57 < b.toNat
          · have HN := Lib.hid (HB.out.bad (List.all_eq_false.2 ⟨b, by rw [hbb]; exact List.getElem_mem (l := (D).data.toList) (by simpa using hlt), by unfold okc; simp; omega⟩))
            have hlo' : ¬ (((D)[k]'hlt).toNat : Int) < 48 := by rw [← hbb]; omega
            have hhi' : (57 : Int) < (((D)[k]'hlt).toNat : Int) := by rw [← hbb]; omega
            clear hbb hI h6 hlo hhi
            have c0 := iv0 h0
            have c1 := iv1 h0
            have f0 : wr.frozen? ⟨w.heap.size, 0, none⟩ = false := frozen_of_row _ _ _ _ _ h0
            have f1 : wr.frozen? ⟨w.heap.size, 1, none⟩ = false := frozen_of_row _ _ _ _ _ h0
            go_wp2_with fail
            refine bodyPost_ret (res_ivT rfl _ _ w.heap.size rfl ((hs_new (hs_new h0)).trans iv_set)) rfl ?_
            rw [HN.out]
            exact ⟨none, 0, rfl, IvAt.zero _, (hb.setCell (by simp) _).setCell (by simp) _⟩
          have hlo' : ¬ (((D)[k]'hlt).toNat : Int) < 48 := by rw [← hbb]; omega
          have hhi' : ¬ (57 : Int) < (((D)[k]'hlt).toNat : Int) := by rw [← hbb]; omega
          have hkb : (D).data.toList[k]? = some ((D)[k]'hlt) := by
            rw [List.getElem?_eq_getElem (by simpa using hlt)]; rfl
          have HXS := Lib.hid (xk_succ (D).data.toList k _ hkb (by rw [← hbb]; omega))
          have n1 := xk_nl (D).data.toList k (by omega) HO.out
          have HO2 : Hid (∀ c ∈ (D).data.toList.take (k + 1), okc c = true) := Lib.hid (by
            intro c hc
            rw [List.take_add_one, hkb] at hc
            rcases List.mem_append.1 hc with h | h
            · exact HO.out c h
            · simp at h
              rw [h, ← hbb]
              unfold okc
              simp; omega)
          have n2 : nl (10 : Int).natAbs ≤ 1 := nl_small (by decide)
          have n3 := nl_mul (xk (D).data.toList k) 10
          obtain ⟨v, hv⟩ : ∃ v, ((D)[k]'hlt).toNat = v := ⟨_, rfl⟩
          have ev : (((D)[k]'hlt).toNat : Int) = (v : Int) := by rw [hv]
          rw [hv] at HXS
          have v1 : (48 : Int) ≤ (v : Int) := by omega
          have v2 : (v : Int) ≤ 57 := by omega
          have wv : IntKind.u8.wrap ((v : Int) - 48) = (v : Int) - 48 := IntWalk.u8_in _ ⟨by omega, by omega⟩
          have wi : IntKind.i64.wrap ((v : Int) - 48) = (v : Int) - 48 := IntWalk.i64_in _ (by omega)
          have n4 : nl ((v : Int) - 48 : Int).natAbs ≤ 1 := nl_small (by omega)
          clear hbb hkb hlo hhi hv
          go_upto_region 13 with (fail)
          have hI' := hI.below (Below.refl _ wr).drew
          replace hb := hb.drew
          refine wp_region_held_drew (S := Kept [p6] wr) mixed (Kept.drew [p6] wr) (fun hS => ?_)
          refine ha_k (i := 3) rfl (by kernel_rfl) (by kernel_rfl) (by kernel_rfl) (fun _ _ _ _ h => h) hS rfl (fun K hK => ?_); go_simp; refine hK _ ?_; clear hK K; try simp only [put_lit, List.set_cons_zero, List.set_cons_succ]
          refine ha_k (i := 4) rfl (by kernel_rfl) (by kernel_rfl) (by kernel_rfl) (fun _ _ _ _ h => h) hS rfl (fun K hK => ?_); go_simp; refine hK _ ?_; clear hK K; try simp only [put_lit, List.set_cons_zero, List.set_cons_succ]
          refine ha_k (i := 5) rfl (by kernel_rfl) (by kernel_rfl) (by kernel_rfl) (fun _ _ _ _ h => h) hS rfl (fun K hK => ?_); go_simp; refine hK _ ?_; clear hK K; try simp only [put_lit, List.set_cons_zero, List.set_cons_succ]
          refine ha_k (i := 6) rfl (by kernel_rfl) (by kernel_rfl) (by kernel_rfl) (fun _ _ _ _ h => h) hS rfl (fun K hK => ?_); go_simp; refine hK _ ?_; clear hK K; try simp only [put_lit, List.set_cons_zero, List.set_cons_succ]
          refine ha_k (i := 7) rfl (by kernel_rfl) (by kernel_rfl) (by kernel_rfl) (fun _ _ _ _ h => h) hS rfl (fun K hK => ?_); go_simp; refine hK _ ?_; clear hK K; try simp only [put_lit, List.set_cons_zero, List.set_cons_succ]
          refine ha_two (i := 0) (j := 1) (by kernel_rfl) ?_ ?_
          · refine sh_val (i := 0) rfl rfl (ex_row rfl (rowIv h6)) hS ?_; try simp only [put_lit, List.set_cons_zero, List.set_cons_succ]
            refine ha_call (i := 1) (by kernel_rfl) rfl rfl (fun K hK => ?_); go_simp; refine ⟨_, _, ⟨rfl, rfl⟩, hK _ _ ⟨_, Of_any 10 (by decide) (by decide) _, ?_⟩⟩; clear hK K; rintro e w4 ⟨A3, c3, rfl, hI2, hb1⟩; refine ⟨_, rfl, hS.below hb1, ?_⟩; replace hS := hS.below hb1; replace h6 := below_look hb1 h6; replace h0 := below_look hb1 h0; replace hI' := hI'.below hb1; replace hb := hb.trans (hb1.mono hb.size); clear hb1; try simp only [put_lit, List.set_cons_zero, List.set_cons_succ]
            refine ha_call (i := 2) (by kernel_rfl) rfl rfl (fun K hK => ?_); go_simp; refine ⟨_, _, ⟨rfl, rfl⟩, hK _ _ ⟨_, TimesI_any _ _ _ _ _ _ _ hI' hI2 (by omega) (by omega), ?_⟩⟩; clear hK K; rintro e w5 ⟨A4, c4, rfl, hI3, hb1⟩; refine ⟨_, rfl, hS.below hb1, ?_⟩; replace hS := hS.below hb1; replace h6 := below_look hb1 h6; replace h0 := below_look hb1 h0; replace hI' := hI'.below hb1; replace hb := hb.trans (hb1.mono hb.size); clear hb1; try simp only [put_lit, List.set_cons_zero, List.set_cons_succ]
            refine ha_call (i := 8) (by kernel_rfl) rfl rfl (fun K hK => ?_); go_simp; refine ⟨_, _, ⟨rfl, rfl⟩, hK _ _ ⟨_, Of_any ((v : Int) - 48) (by omega) (by omega) _, ?_⟩⟩; clear hK K; rintro e w6 ⟨A5, c5, rfl, hI4, hb1⟩; refine ⟨_, rfl, hS.below hb1, ?_⟩; replace hS := hS.below hb1; replace h6 := below_look hb1 h6; replace h0 := below_look hb1 h0; replace hI3 := hI3.below hb1; replace hb := hb.trans (hb1.mono hb.size); clear hb1; try simp only [put_lit, List.set_cons_zero, List.set_cons_succ]
            refine ha_call (i := 9) (by kernel_rfl) rfl rfl (fun K hK => ?_); go_simp; refine ⟨_, _, ⟨rfl, rfl⟩, hK _ _ ⟨_, Sum2_any _ _ _ _ _ _ _ hI3 hI4 (by omega) (by omega), ?_⟩⟩; clear hK K; rintro e w7 ⟨A6, c6, rfl, hI5, hb1⟩; refine ⟨_, rfl, hS.below hb1, ?_⟩; replace hS := hS.below hb1; replace h6 := below_look hb1 h6; replace h0 := below_look hb1 h0; replace hb := hb.trans (hb1.mono hb.size); clear hb1; try simp only [put_lit, List.set_cons_zero, List.set_cons_succ]
            rw [HXS.out] at hI5 ⊢
            refine ha_store (i := 10) (by kernel_rfl) rfl rfl 41 _ _ rfl _ (iv (xk (D).data.toList (k + 1)) A6 c6) rfl rfl 41 _ h6 info84 rfl (iv_one _ _ _) (hS.setRow (by simp) _) (fun hS => ?_); try simp only [put_lit, List.set_cons_zero, List.set_cons_succ]
            refine wpAnyH_done (by kernel_rfl) ?_ _
            clear hI hI' hI2 hI3 hI4 n1 n2 n3 n4
            go_wp2_with fail
            go_roundw
            case rel => exact ⟨k + 1, A6, c6, by omega, by go_num, HO2, hr_new h6, hr_old h0 (by omega), hI5.put h6 _, below_setRow hb (by omega) _⟩
            case measure => simp [intOf]; omega
          · refine sh_call (i := 1) rfl rfl (fun K hK => ?_); go_simp; refine ⟨_, _, ⟨rfl, rfl⟩, hK _ _ ⟨_, Of_any 10 (by decide) (by decide) _, ?_⟩⟩; clear hK K; rintro e w4 ⟨A3, c3, rfl, hI2, hb1⟩; refine ⟨_, rfl, hS.below hb1, ?_⟩; replace hS := hS.below hb1; replace h6 := below_look hb1 h6; replace h0 := below_look hb1 h0; replace hI' := hI'.below hb1; replace hb := hb.trans (hb1.mono hb.size); clear hb1; try simp only [put_lit, List.set_cons_zero, List.set_cons_succ]
            refine ha_do (i := 0) (by kernel_rfl) rfl rfl (ex_row rfl (rowIv h6)) hS ?_; try simp only [put_lit, List.set_cons_zero, List.set_cons_succ]
            refine ha_call (i := 2) (by kernel_rfl) rfl rfl (fun K hK => ?_); go_simp; refine ⟨_, _, ⟨rfl, rfl⟩, hK _ _ ⟨_, TimesI_any _ _ _ _ _ _ _ hI' hI2 (by omega) (by omega), ?_⟩⟩; clear hK K; rintro e w5 ⟨A4, c4, rfl, hI3, hb1⟩; refine ⟨_, rfl, hS.below hb1, ?_⟩; replace hS := hS.below hb1; replace h6 := below_look hb1 h6; replace h0 := below_look hb1 h0; replace hI' := hI'.below hb1; replace hb := hb.trans (hb1.mono hb.size); clear hb1; try simp only [put_lit, List.set_cons_zero, List.set_cons_succ]
            refine ha_call (i := 8) (by kernel_rfl) rfl rfl (fun K hK => ?_); go_simp; refine ⟨_, _, ⟨rfl, rfl⟩, hK _ _ ⟨_, Of_any ((v : Int) - 48) (by omega) (by omega) _, ?_⟩⟩; clear hK K; rintro e w6 ⟨A5, c5, rfl, hI4, hb1⟩; refine ⟨_, rfl, hS.below hb1, ?_⟩; replace hS := hS.below hb1; replace h6 := below_look hb1 h6; replace h0 := below_look hb1 h0; replace hI3 := hI3.below hb1; replace hb := hb.trans (hb1.mono hb.size); clear hb1; try simp only [put_lit, List.set_cons_zero, List.set_cons_succ]
            refine ha_call (i := 9) (by kernel_rfl) rfl rfl (fun K hK => ?_); go_simp; refine ⟨_, _, ⟨rfl, rfl⟩, hK _ _ ⟨_, Sum2_any _ _ _ _ _ _ _ hI3 hI4 (by omega) (by omega), ?_⟩⟩; clear hK K; rintro e w7 ⟨A6, c6, rfl, hI5, hb1⟩; refine ⟨_, rfl, hS.below hb1, ?_⟩; replace hS := hS.below hb1; replace h6 := below_look hb1 h6; replace h0 := below_look hb1 h0; replace hb := hb.trans (hb1.mono hb.size); clear hb1; try simp only [put_lit, List.set_cons_zero, List.set_cons_succ]
            rw [HXS.out] at hI5 ⊢
            refine ha_store (i := 10) (by kernel_rfl) rfl rfl 41 _ _ rfl _ (iv (xk (D).data.toList (k + 1)) A6 c6) rfl rfl 41 _ h6 info84 rfl (iv_one _ _ _) (hS.setRow (by simp) _) (fun hS => ?_); try simp only [put_lit, List.set_cons_zero, List.set_cons_succ]
            refine wpAnyH_done (by kernel_rfl) ?_ _
            clear hI hI' hI2 hI3 hI4 n1 n2 n3 n4
            go_wp2_with fail
            go_roundw
            case rel => exact ⟨k + 1, A6, c6, by omega, by go_num, HO2, hr_new h6, hr_old h0 (by omega), hI5.put h6 _, below_setRow hb (by omega) _⟩
            case measure => simp [intOf]; omega
        · obtain rfl : k = (D).size := by omega
          have hall : (D).data.toList.all okc = true := by
            rw [List.all_eq_true]
            intro x hx
            apply HO.out
            rw [List.take_of_length_le (by simp)]
            exact hx
          have HN := Lib.hid (HG.out hall)
          have hxe : xk (D).data.toList (D).size = ((rv (D).data.toList.reverse : Nat) : Int) := by unfold xk; rw [List.take_of_length_le (by simp)]
          rw [hxe] at h6 hI
          clear hxe hall
          have m1 := iv1 h6
          rw [Int.natAbs_natCast] at m1
          go_upto_region 14 with (fail)
          apply wp_region_lit
          refine wl_k rfl (fun K hK => ?_); go_simp; refine hK _ ?_; clear hK K
          refine wl_k rfl (fun K hK => ?_); go_simp; refine hK _ ?_; clear hK K
          ((with_reducible apply wl_oneG); exact rfl; exact rfl; exact one82 (by with_reducible assumption))
          clear m1
          refine wl_ck rfl (fun K hK => ?_); go_simp; refine ⟨_, _, ⟨rfl, rfl⟩, hK _ _ ⟨_, signedI_any true A _ c _, ?_⟩⟩; clear hK K; rintro e w8 ⟨rfl, hb1⟩; refine ⟨_, rfl, ?_⟩; simp only [put_lit, List.set_cons_zero, List.set_cons_succ]
          replace hI := hI.below hb1
          replace h0 := below_look hb1 h0
          replace hb := hb.trans (hb1.mono hb.size)
          clear hb1
          have hJ : IvAt w8 (sg true (rv (D).data.toList.reverse)) A c := by
            obtain ⟨i1, i2⟩ := hI
            rw [Int.natAbs_natCast] at i1 i2
            exact ⟨by rw [sg_bd]; exact i1, by rw [sg_bd]; exact i2⟩
          ((with_reducible apply wl_putI); exact rfl; exact rfl; exact h0; intro w9 hbx hk hq hi; replace hJ := hi _ _ _ hJ; replace hb := hbx _ _ (by omega) hb; clear h0; have h0 := hq; clear hbx hk hq hi)
          go_wp2_with fail
          refine bodyPost_ret (res_ivT rfl _ _ w.heap.size rfl h0) rfl ?_
          rw [HN.out]
          exact ⟨A, c, rfl, hJ, hb⟩
  · have HG := Lib.hid (HB.out.good (by omega) hpos (Or.inl hz))
    have hz' : ¬ (((D)[0]'hpos).toNat : Int) = 48 := by omega
    have h40' : ¬ (40 : Int) < (m.size : Int) := by omega
    have hds : (D).size ≤ 40 := by omega
    clear hDS hd0
    go_upto_region 7 with (fail)
    clear hz hz' h40 h40'
    clear hne1 hne2
    apply wp_region_lit
    refine wl_val rfl (ex_build 41 _ rfl (L := []) rfl built84z) ?_
    simp only [put_lit, List.set_cons_zero, List.set_cons_succ]
    (have lth0p6 := heap_lt h0; have lsp6 := hb.size; (with_reducible apply wl_new84); intro w2 p6 hbn hlp6 hp6; replace h0 := below_look hbn h0; replace hb := hb.trans (hbn.mono hb.size); clear hbn)
    ((with_reducible apply wl_putI); exact rfl; exact rfl; exact hp6; intro w3 hbx hk hq hi; replace h0 := hk _ _ (by omega) h0; replace hb := hbx _ _ (by omega) hb; clear hp6; have hp6 := hq; clear hbx hk hq hi)
    go_wp2_with fail
    go_loopw [7] (fun i wr => ∃ (k : Nat) (A : Option Addr) (c : Nat), k ≤ (D).size ∧ i = .int .i64 (k : Int) ∧ Hid (∀ c ∈ (D).data.toList.take k, okc c = true) ∧ wr.heap[p6]? = some (.cells (iv (xk (D).data.toList k) A c) 41 (0, 0)) ∧ wr.heap[w.heap.size]? = some (.cells (iv 0 none 0) 41 (0, 0)) ∧ IvAt wr (xk (D).data.toList k) A c ∧ Below w.heap.size w wr) (fun i _ => ((D).size - intOf i).toNat)
    case atStart => exact ⟨0, none, 0, by omega, rfl, Lib.hid (by simp), by rw [xk_zero]; exact hp6, h0, by rw [xk_zero]; exact IvAt.zero _, hb⟩
    case round =>
      clear h0 hp6 hb
      obtain ⟨k, A, c, hk, rfl, HO, h6, h0, hI, hb⟩ := hrel
      by_cases hlt : k < (D).size
      · obtain ⟨b, hbb⟩ : ∃ b, b = ((D)[k]'hlt) := ⟨_, rfl⟩
        have hb0 : b.toNat < 256 := UInt8.toNat_lt b
        have HBB := Lib.hid hbb
        by_cases hlo : b.toNat < 48
        · have HN := Lib.hid (HB.out.bad (List.all_eq_false.2 ⟨b, by rw [hbb]; exact List.getElem_mem (l := (D).data.toList) (by simpa using hlt), by unfold okc; simp; omega⟩))
          have hlo' : (((D)[k]'hlt).toNat : Int) < 48 := by rw [← hbb]; omega
          clear hbb hI h6 hlo
          have c0 := iv0 h0
          have c1 := iv1 h0
          have f0 : wr.frozen? ⟨w.heap.size, 0, none⟩ = false := frozen_of_row _ _ _ _ _ h0
          have f1 : wr.frozen? ⟨w.heap.size, 1, none⟩ = false := frozen_of_row _ _ _ _ _ h0
          go_wp2_with fail
          refine bodyPost_ret (res_ivT rfl _ _ w.heap.size rfl ((hs_new (hs_new h0)).trans iv_set)) rfl ?_
          rw [HN.out]
          exact ⟨none, 0, rfl, IvAt.zero _, (hb.setCell (by simp) _).setCell (by simp) _⟩
        by_cases hhi : 57 < b.toNat
        · have HN := Lib.hid (HB.out.bad (List.all_eq_false.2 ⟨b, by rw [hbb]; exact List.getElem_mem (l := (D).data.toList) (by simpa using hlt), by unfold okc; simp; omega⟩))
          have hlo' : ¬ (((D)[k]'hlt).toNat : Int) < 48 := by rw [← hbb]; omega
          have hhi' : (57 : Int) < (((D)[k]'hlt).toNat : Int) := by rw [← hbb]; omega
          clear hbb hI h6 hlo hhi
          have c0 := iv0 h0
          have c1 := iv1 h0
          have f0 : wr.frozen? ⟨w.heap.size, 0, none⟩ = false := frozen_of_row _ _ _ _ _ h0
          have f1 : wr.frozen? ⟨w.heap.size, 1, none⟩ = false := frozen_of_row _ _ _ _ _ h0
          go_wp2_with fail
          refine bodyPost_ret (res_ivT rfl _ _ w.heap.size rfl ((hs_new (hs_new h0)).trans iv_set)) rfl ?_
          rw [HN.out]
          exact ⟨none, 0, rfl, IvAt.zero _, (hb.setCell (by simp) _).setCell (by simp) _⟩
        have hlo' : ¬ (((D)[k]'hlt).toNat : Int) < 48 := by rw [← hbb]; omega
        have hhi' : ¬ (57 : Int) < (((D)[k]'hlt).toNat : Int) := by rw [← hbb]; omega
        have hkb : (D).data.toList[k]? = some ((D)[k]'hlt) := by
          rw [List.getElem?_eq_getElem (by simpa using hlt)]; rfl
        have HXS := Lib.hid (xk_succ (D).data.toList k _ hkb (by rw [← hbb]; omega))
        have n1 := xk_nl (D).data.toList k (by omega) HO.out
        have HO2 : Hid (∀ c ∈ (D).data.toList.take (k + 1), okc c = true) := Lib.hid (by
          intro c hc
          rw [List.take_add_one, hkb] at hc
          rcases List.mem_append.1 hc with h | h
          · exact HO.out c h
          · simp at h
            rw [h, ← hbb]
            unfold okc
            simp; omega)
        have n2 : nl (10 : Int).natAbs ≤ 1 := nl_small (by decide)
        have n3 := nl_mul (xk (D).data.toList k) 10
        obtain ⟨v, hv⟩ : ∃ v, ((D)[k]'hlt).toNat = v := ⟨_, rfl⟩
        have ev : (((D)[k]'hlt).toNat : Int) = (v : Int) := by rw [hv]
        rw [hv] at HXS
        have v1 : (48 : Int) ≤ (v : Int) := by omega
        have v2 : (v : Int) ≤ 57 := by omega
        have wv : IntKind.u8.wrap ((v : Int) - 48) = (v : Int) - 48 := IntWalk.u8_in _ ⟨by omega, by omega⟩
        have wi : IntKind.i64.wrap ((v : Int) - 48) = (v : Int) - 48 := IntWalk.i64_in _ (by omega)
        have n4 : nl ((v : Int) - 48 : Int).natAbs ≤ 1 := nl_small (by omega)
        clear hbb hkb hlo hhi hv
        go_upto_region 13 with (fail)
        have hI' := hI.below (Below.refl _ wr).drew
        replace hb := hb.drew
        refine wp_region_held_drew (S := Kept [p6] wr) mixed (Kept.drew [p6] wr) (fun hS => ?_)
        refine ha_k (i := 3) rfl (by kernel_rfl) (by kernel_rfl) (by kernel_rfl) (fun _ _ _ _ h => h) hS rfl (fun K hK => ?_); go_simp; refine hK _ ?_; clear hK K; try simp only [put_lit, List.set_cons_zero, List.set_cons_succ]
        refine ha_k (i := 4) rfl (by kernel_rfl) (by kernel_rfl) (by kernel_rfl) (fun _ _ _ _ h => h) hS rfl (fun K hK => ?_); go_simp; refine hK _ ?_; clear hK K; try simp only [put_lit, List.set_cons_zero, List.set_cons_succ]
        refine ha_k (i := 5) rfl (by kernel_rfl) (by kernel_rfl) (by kernel_rfl) (fun _ _ _ _ h => h) hS rfl (fun K hK => ?_); go_simp; refine hK _ ?_; clear hK K; try simp only [put_lit, List.set_cons_zero, List.set_cons_succ]
        refine ha_k (i := 6) rfl (by kernel_rfl) (by kernel_rfl) (by kernel_rfl) (fun _ _ _ _ h => h) hS rfl (fun K hK => ?_); go_simp; refine hK _ ?_; clear hK K; try simp only [put_lit, List.set_cons_zero, List.set_cons_succ]
        refine ha_k (i := 7) rfl (by kernel_rfl) (by kernel_rfl) (by kernel_rfl) (fun _ _ _ _ h => h) hS rfl (fun K hK => ?_); go_simp; refine hK _ ?_; clear hK K; try simp only [put_lit, List.set_cons_zero, List.set_cons_succ]
        refine ha_two (i := 0) (j := 1) (by kernel_rfl) ?_ ?_
        · refine sh_val (i := 0) rfl rfl (ex_row rfl (rowIv h6)) hS ?_; try simp only [put_lit, List.set_cons_zero, List.set_cons_succ]
          refine ha_call (i := 1) (by kernel_rfl) rfl rfl (fun K hK => ?_); go_simp; refine ⟨_, _, ⟨rfl, rfl⟩, hK _ _ ⟨_, Of_any 10 (by decide) (by decide) _, ?_⟩⟩; clear hK K; rintro e w4 ⟨A3, c3, rfl, hI2, hb1⟩; refine ⟨_, rfl, hS.below hb1, ?_⟩; replace hS := hS.below hb1; replace h6 := below_look hb1 h6; replace h0 := below_look hb1 h0; replace hI' := hI'.below hb1; replace hb := hb.trans (hb1.mono hb.size); clear hb1; try simp only [put_lit, List.set_cons_zero, List.set_cons_succ]
          refine ha_call (i := 2) (by kernel_rfl) rfl rfl (fun K hK => ?_); go_simp; refine ⟨_, _, ⟨rfl, rfl⟩, hK _ _ ⟨_, TimesI_any _ _ _ _ _ _ _ hI' hI2 (by omega) (by omega), ?_⟩⟩; clear hK K; rintro e w5 ⟨A4, c4, rfl, hI3, hb1⟩; refine ⟨_, rfl, hS.below hb1, ?_⟩; replace hS := hS.below hb1; replace h6 := below_look hb1 h6; replace h0 := below_look hb1 h0; replace hI' := hI'.below hb1; replace hb := hb.trans (hb1.mono hb.size); clear hb1; try simp only [put_lit, List.set_cons_zero, List.set_cons_succ]
          refine ha_call (i := 8) (by kernel_rfl) rfl rfl (fun K hK => ?_); go_simp; refine ⟨_, _, ⟨rfl, rfl⟩, hK _ _ ⟨_, Of_any ((v : Int) - 48) (by omega) (by omega) _, ?_⟩⟩; clear hK K; rintro e w6 ⟨A5, c5, rfl, hI4, hb1⟩; refine ⟨_, rfl, hS.below hb1, ?_⟩; replace hS := hS.below hb1; replace h6 := below_look hb1 h6; replace h0 := below_look hb1 h0; replace hI3 := hI3.below hb1; replace hb := hb.trans (hb1.mono hb.size); clear hb1; try simp only [put_lit, List.set_cons_zero, List.set_cons_succ]
          refine ha_call (i := 9) (by kernel_rfl) rfl rfl (fun K hK => ?_); go_simp; refine ⟨_, _, ⟨rfl, rfl⟩, hK _ _ ⟨_, Sum2_any _ _ _ _ _ _ _ hI3 hI4 (by omega) (by omega), ?_⟩⟩; clear hK K; rintro e w7 ⟨A6, c6, rfl, hI5, hb1⟩; refine ⟨_, rfl, hS.below hb1, ?_⟩; replace hS := hS.below hb1; replace h6 := below_look hb1 h6; replace h0 := below_look hb1 h0; replace hb := hb.trans (hb1.mono hb.size); clear hb1; try simp only [put_lit, List.set_cons_zero, List.set_cons_succ]
          rw [HXS.out] at hI5 ⊢
          refine ha_store (i := 10) (by kernel_rfl) rfl rfl 41 _ _ rfl _ (iv (xk (D).data.toList (k + 1)) A6 c6) rfl rfl 41 _ h6 info84 rfl (iv_one _ _ _) (hS.setRow (by simp) _) (fun hS => ?_); try simp only [put_lit, List.set_cons_zero, List.set_cons_succ]
          refine wpAnyH_done (by kernel_rfl) ?_ _
          clear hI hI' hI2 hI3 hI4 n1 n2 n3 n4
          go_wp2_with fail
          go_roundw
          case rel => exact ⟨k + 1, A6, c6, by omega, by go_num, HO2, hr_new h6, hr_old h0 (by omega), hI5.put h6 _, below_setRow hb (by omega) _⟩
          case measure => simp [intOf]; omega
        · refine sh_call (i := 1) rfl rfl (fun K hK => ?_); go_simp; refine ⟨_, _, ⟨rfl, rfl⟩, hK _ _ ⟨_, Of_any 10 (by decide) (by decide) _, ?_⟩⟩; clear hK K; rintro e w4 ⟨A3, c3, rfl, hI2, hb1⟩; refine ⟨_, rfl, hS.below hb1, ?_⟩; replace hS := hS.below hb1; replace h6 := below_look hb1 h6; replace h0 := below_look hb1 h0; replace hI' := hI'.below hb1; replace hb := hb.trans (hb1.mono hb.size); clear hb1; try simp only [put_lit, List.set_cons_zero, List.set_cons_succ]
          refine ha_do (i := 0) (by kernel_rfl) rfl rfl (ex_row rfl (rowIv h6)) hS ?_; try simp only [put_lit, List.set_cons_zero, List.set_cons_succ]
          refine ha_call (i := 2) (by kernel_rfl) rfl rfl (fun K hK => ?_); go_simp; refine ⟨_, _, ⟨rfl, rfl⟩, hK _ _ ⟨_, TimesI_any _ _ _ _ _ _ _ hI' hI2 (by omega) (by omega), ?_⟩⟩; clear hK K; rintro e w5 ⟨A4, c4, rfl, hI3, hb1⟩; refine ⟨_, rfl, hS.below hb1, ?_⟩; replace hS := hS.below hb1; replace h6 := below_look hb1 h6; replace h0 := below_look hb1 h0; replace hI' := hI'.below hb1; replace hb := hb.trans (hb1.mono hb.size); clear hb1; try simp only [put_lit, List.set_cons_zero, List.set_cons_succ]
          refine ha_call (i := 8) (by kernel_rfl) rfl rfl (fun K hK => ?_); go_simp; refine ⟨_, _, ⟨rfl, rfl⟩, hK _ _ ⟨_, Of_any ((v : Int) - 48) (by omega) (by omega) _, ?_⟩⟩; clear hK K; rintro e w6 ⟨A5, c5, rfl, hI4, hb1⟩; refine ⟨_, rfl, hS.below hb1, ?_⟩; replace hS := hS.below hb1; replace h6 := below_look hb1 h6; replace h0 := below_look hb1 h0; replace hI3 := hI3.below hb1; replace hb := hb.trans (hb1.mono hb.size); clear hb1; try simp only [put_lit, List.set_cons_zero, List.set_cons_succ]
          refine ha_call (i := 9) (by kernel_rfl) rfl rfl (fun K hK => ?_); go_simp; refine ⟨_, _, ⟨rfl, rfl⟩, hK _ _ ⟨_, Sum2_any _ _ _ _ _ _ _ hI3 hI4 (by omega) (by omega), ?_⟩⟩; clear hK K; rintro e w7 ⟨A6, c6, rfl, hI5, hb1⟩; refine ⟨_, rfl, hS.below hb1, ?_⟩; replace hS := hS.below hb1; replace h6 := below_look hb1 h6; replace h0 := below_look hb1 h0; replace hb := hb.trans (hb1.mono hb.size); clear hb1; try simp only [put_lit, List.set_cons_zero, List.set_cons_succ]
          rw [HXS.out] at hI5 ⊢
          refine ha_store (i := 10) (by kernel_rfl) rfl rfl 41 _ _ rfl _ (iv (xk (D).data.toList (k + 1)) A6 c6) rfl rfl 41 _ h6 info84 rfl (iv_one _ _ _) (hS.setRow (by simp) _) (fun hS => ?_); try simp only [put_lit, List.set_cons_zero, List.set_cons_succ]
          refine wpAnyH_done (by kernel_rfl) ?_ _
          clear hI hI' hI2 hI3 hI4 n1 n2 n3 n4
          go_wp2_with fail
          go_roundw
          case rel => exact ⟨k + 1, A6, c6, by omega, by go_num, HO2, hr_new h6, hr_old h0 (by omega), hI5.put h6 _, below_setRow hb (by omega) _⟩
          case measure => simp [intOf]; omega
      · obtain rfl : k = (D).size := by omega
        have hall : (D).data.toList.all okc = true := by
          rw [List.all_eq_true]
          intro x hx
          apply HO.out
          rw [List.take_of_length_le (by simp)]
          exact hx
        have HN := Lib.hid (HG.out hall)
        have hxe : xk (D).data.toList (D).size = ((rv (D).data.toList.reverse : Nat) : Int) := by unfold xk; rw [List.take_of_length_le (by simp)]
        rw [hxe] at h6 hI
        clear hxe hall
        have m1 := iv1 h6
        rw [Int.natAbs_natCast] at m1
        go_upto_region 14 with (fail)
        apply wp_region_lit
        refine wl_k rfl (fun K hK => ?_); go_simp; refine hK _ ?_; clear hK K
        refine wl_k rfl (fun K hK => ?_); go_simp; refine hK _ ?_; clear hK K
        ((with_reducible apply wl_oneG); exact rfl; exact rfl; exact one82 (by with_reducible assumption))
        clear m1
        refine wl_ck rfl (fun K hK => ?_); go_simp; refine ⟨_, _, ⟨rfl, rfl⟩, hK _ _ ⟨_, signedI_any true A _ c _, ?_⟩⟩; clear hK K; rintro e w8 ⟨rfl, hb1⟩; refine ⟨_, rfl, ?_⟩; simp only [put_lit, List.set_cons_zero, List.set_cons_succ]
        replace hI := hI.below hb1
        replace h0 := below_look hb1 h0
        replace hb := hb.trans (hb1.mono hb.size)
        clear hb1
        have hJ : IvAt w8 (sg true (rv (D).data.toList.reverse)) A c := by
          obtain ⟨i1, i2⟩ := hI
          rw [Int.natAbs_natCast] at i1 i2
          exact ⟨by rw [sg_bd]; exact i1, by rw [sg_bd]; exact i2⟩
        ((with_reducible apply wl_putI); exact rfl; exact rfl; exact h0; intro w9 hbx hk hq hi; replace hJ := hi _ _ _ hJ; replace hb := hbx _ _ (by omega) hb; clear h0; have h0 := hq; clear hbx hk hq hi)
        go_wp2_with fail
        refine bodyPost_ret (res_ivT rfl _ _ w.heap.size rfl h0) rfl ?_
        rw [HN.out]
        exact ⟨A, c, rfl, hJ, hb⟩
set_option maxHeartbeats 8000000 in
set_option maxRecDepth 100000 in
theorem ReadI_pos (m : ByteArray) (hms : 0 < m.size) (hc : (((m[0]'hms).toNat : Int) == 45) = false) (HB : Hid (Behind m m false)) (w : World) :
    Calls Tryz.prog 13 #[.string m] w fun e w' => ∃ A c, e = .returned (.tuple #[.agg (iv ((rdm m).getD 0) A c), .bool (rdm m).isSome]) ∧ IvAt w' ((rdm m).getD 0) A c ∧ Below w.heap.size w w' := by
  go_enter Tryz.func13, Tryz.ntmps13
  go_upto_region 1 with (fail)
  refine wp_world (fun W => W.heap[w.heap.size]? = some (.cells (iv 0 none 0) 41 (0, 0)) ∧ Below w.heap.size w W) ⟨by rw [iv_zero]; exact ha_new rfl, (Below.refl _ _).alloc (Nat.le_refl _) _⟩ ?_
  rintro W ⟨h0, hb⟩
  go_upto_region 5 with (fail)
  have hDS := HB.out.n
  by_cases h40 : 40 < m.size
  · have HN := Lib.hid (HB.out.long h40)
    clear hDS
    have h40' : (40 : Int) < (m.size : Int) := by omega
    have c0 := iv0 h0
    have c1 := iv1 h0
    have f0 : W.frozen? ⟨w.heap.size, 0, none⟩ = false := frozen_of_row _ _ _ _ _ h0
    have f1 : W.frozen? ⟨w.heap.size, 1, none⟩ = false := frozen_of_row _ _ _ _ _ h0
    go_wp2_with fail
    refine bodyPost_ret (res_ivT rfl _ _ w.heap.size rfl ((hs_new (hs_new h0)).trans iv_set)) rfl ?_
    rw [HN.out]
    exact ⟨none, 0, rfl, IvAt.zero _, (hb.setCell (by simp) _).setCell (by simp) _⟩
  by_cases hd0 : (m).size = 0
  · have HN := Lib.hid (HB.out.none_ hd0)
    have hd0' : (((m).size : Int) == 0) = true := by simp [hd0]
    clear hDS hd0
    have h40' : ¬ (40 : Int) < (m.size : Int) := by omega
    have c0 := iv0 h0
    have c1 := iv1 h0
    have f0 : W.frozen? ⟨w.heap.size, 0, none⟩ = false := frozen_of_row _ _ _ _ _ h0
    have f1 : W.frozen? ⟨w.heap.size, 1, none⟩ = false := frozen_of_row _ _ _ _ _ h0
    go_wp2_with fail
    refine bodyPost_ret (res_ivT rfl _ _ w.heap.size rfl ((hs_new (hs_new h0)).trans iv_set)) rfl ?_
    rw [HN.out]
    exact ⟨none, 0, rfl, IvAt.zero _, (hb.setCell (by simp) _).setCell (by simp) _⟩
  have hpos : 0 < (m).size := by omega
  have hne1 : (((m).size : Int) == 0) = false := by rw [beq_eq_false_iff_ne]; omega
  have hne2 : ¬ (m) = ByteArray.empty := by intro e; apply hd0; rw [e]; rfl
  by_cases hz : ((m)[0]'hpos).toNat = 48
  · by_cases h1 : 1 < m.size
    · have HN := Lib.hid (HB.out.zero hpos hz h1)
      clear hDS
      have hz' : (((m)[0]'hpos).toNat : Int) = 48 := by omega
      have h1' : (1 : Int) < (m.size : Int) := by omega
      have h40' : ¬ (40 : Int) < (m.size : Int) := by omega
      have c0 := iv0 h0
      have c1 := iv1 h0
      have f0 : W.frozen? ⟨w.heap.size, 0, none⟩ = false := frozen_of_row _ _ _ _ _ h0
      have f1 : W.frozen? ⟨w.heap.size, 1, none⟩ = false := frozen_of_row _ _ _ _ _ h0
      go_wp2_with fail
      refine bodyPost_ret (res_ivT rfl _ _ w.heap.size rfl ((hs_new (hs_new h0)).trans iv_set)) rfl ?_
      rw [HN.out]
      exact ⟨none, 0, rfl, IvAt.zero _, (hb.setCell (by simp) _).setCell (by simp) _⟩
    · have HG := Lib.hid (HB.out.good (by omega) hpos (Or.inr (by omega)))
      have hz' : (((m)[0]'hpos).toNat : Int) = 48 := by omega
      have h1' : ¬ (1 : Int) < (m.size : Int) := by omega
      have h40' : ¬ (40 : Int) < (m.size : Int) := by omega
      have hds : (m).size ≤ 40 := by omega
      clear hDS hd0
      go_upto_region 7 with (fail)
      clear hz hz' h1 h1' h40 h40'
      clear hne1 hne2
      apply wp_region_lit
      refine wl_val rfl (ex_build 41 _ rfl (L := []) rfl built84z) ?_
      simp only [put_lit, List.set_cons_zero, List.set_cons_succ]
      (have lth0p6 := heap_lt h0; have lsp6 := hb.size; (with_reducible apply wl_new84); intro w2 p6 hbn hlp6 hp6; replace h0 := below_look hbn h0; replace hb := hb.trans (hbn.mono hb.size); clear hbn)
      ((with_reducible apply wl_putI); exact rfl; exact rfl; exact hp6; intro w3 hbx hk hq hi; replace h0 := hk _ _ (by omega) h0; replace hb := hbx _ _ (by omega) hb; clear hp6; have hp6 := hq; clear hbx hk hq hi)
      go_wp2_with fail
      go_loopw [7] (fun i wr => ∃ (k : Nat) (A : Option Addr) (c : Nat), k ≤ (m).size ∧ i = .int .i64 (k : Int) ∧ Hid (∀ c ∈ (m).data.toList.take k, okc c = true) ∧ wr.heap[p6]? = some (.cells (iv (xk (m).data.toList k) A c) 41 (0, 0)) ∧ wr.heap[w.heap.size]? = some (.cells (iv 0 none 0) 41 (0, 0)) ∧ IvAt wr (xk (m).data.toList k) A c ∧ Below w.heap.size w wr) (fun i _ => ((m).size - intOf i).toNat)
      case atStart => exact ⟨0, none, 0, by omega, rfl, Lib.hid (by simp), by rw [xk_zero]; exact hp6, h0, by rw [xk_zero]; exact IvAt.zero _, hb⟩
      case round =>
        clear h0 hp6 hb
        obtain ⟨k, A, c, hk, rfl, HO, h6, h0, hI, hb⟩ := hrel
        by_cases hlt : k < (m).size
        · obtain ⟨b, hbb⟩ : ∃ b, b = ((m)[k]'hlt) := ⟨_, rfl⟩
          have hb0 : b.toNat < 256 := UInt8.toNat_lt b
          have HBB := Lib.hid hbb
          by_cases hlo : b.toNat < 48
          · have HN := Lib.hid (HB.out.bad (List.all_eq_false.2 ⟨b, by rw [hbb]; exact List.getElem_mem (l := (m).data.toList) (by simpa using hlt), by unfold okc; simp; omega⟩))
            have hlo' : (((m)[k]'hlt).toNat : Int) < 48 := by rw [← hbb]; omega
            clear hbb hI h6 hlo
            have c0 := iv0 h0
            have c1 := iv1 h0
            have f0 : wr.frozen? ⟨w.heap.size, 0, none⟩ = false := frozen_of_row _ _ _ _ _ h0
            have f1 : wr.frozen? ⟨w.heap.size, 1, none⟩ = false := frozen_of_row _ _ _ _ _ h0
            go_wp2_with fail
            refine bodyPost_ret (res_ivT rfl _ _ w.heap.size rfl ((hs_new (hs_new h0)).trans iv_set)) rfl ?_
            rw [HN.out]
            exact ⟨none, 0, rfl, IvAt.zero _, (hb.setCell (by simp) _).setCell (by simp) _⟩
          by_cases hhi : 57 < b.toNat
          · have HN := Lib.hid (HB.out.bad (List.all_eq_false.2 ⟨b, by rw [hbb]; exact List.getElem_mem (l := (m).data.toList) (by simpa using hlt), by unfold okc; simp; omega⟩))
            have hlo' : ¬ (((m)[k]'hlt).toNat : Int) < 48 := by rw [← hbb]; omega
            have hhi' : (57 : Int) < (((m)[k]'hlt).toNat : Int) := by rw [← hbb]; omega
            clear hbb hI h6 hlo hhi
            have c0 := iv0 h0
            have c1 := iv1 h0
            have f0 : wr.frozen? ⟨w.heap.size, 0, none⟩ = false := frozen_of_row _ _ _ _ _ h0
            have f1 : wr.frozen? ⟨w.heap.size, 1, none⟩ = false := frozen_of_row _ _ _ _ _ h0
            go_wp2_with fail
            refine bodyPost_ret (res_ivT rfl _ _ w.heap.size rfl ((hs_new (hs_new h0)).trans iv_set)) rfl ?_
            rw [HN.out]
            exact ⟨none, 0, rfl, IvAt.zero _, (hb.setCell (by simp) _).setCell (by simp) _⟩
          have hlo' : ¬ (((m)[k]'hlt).toNat : Int) < 48 := by rw [← hbb]; omega
          have hhi' : ¬ (57 : Int) < (((m)[k]'hlt).toNat : Int) := by rw [← hbb]; omega
          have hkb : (m).data.toList[k]? = some ((m)[k]'hlt) := by
            rw [List.getElem?_eq_getElem (by simpa using hlt)]; rfl
          have HXS := Lib.hid (xk_succ (m).data.toList k _ hkb (by rw [← hbb]; omega))
          have n1 := xk_nl (m).data.toList k (by omega) HO.out
          have HO2 : Hid (∀ c ∈ (m).data.toList.take (k + 1), okc c = true) := Lib.hid (by
            intro c hc
            rw [List.take_add_one, hkb] at hc
            rcases List.mem_append.1 hc with h | h
            · exact HO.out c h
            · simp at h
              rw [h, ← hbb]
              unfold okc
              simp; omega)
          have n2 : nl (10 : Int).natAbs ≤ 1 := nl_small (by decide)
          have n3 := nl_mul (xk (m).data.toList k) 10
          obtain ⟨v, hv⟩ : ∃ v, ((m)[k]'hlt).toNat = v := ⟨_, rfl⟩
          have ev : (((m)[k]'hlt).toNat : Int) = (v : Int) := by rw [hv]
          rw [hv] at HXS
          have v1 : (48 : Int) ≤ (v : Int) := by omega
          have v2 : (v : Int) ≤ 57 := by omega
          have wv : IntKind.u8.wrap ((v : Int) - 48) = (v : Int) - 48 := IntWalk.u8_in _ ⟨by omega, by omega⟩
          have wi : IntKind.i64.wrap ((v : Int) - 48) = (v : Int) - 48 := IntWalk.i64_in _ (by omega)
          have n4 : nl ((v : Int) - 48 : Int).natAbs ≤ 1 := nl_small (by omega)
          clear hbb hkb hlo hhi hv
          go_upto_region 13 with (fail)
          have hI' := hI.below (Below.refl _ wr).drew
          replace hb := hb.drew
          refine wp_region_held_drew (S := Kept [p6] wr) mixed (Kept.drew [p6] wr) (fun hS => ?_)
          refine ha_k (i := 3) rfl (by kernel_rfl) (by kernel_rfl) (by kernel_rfl) (fun _ _ _ _ h => h) hS rfl (fun K hK => ?_); go_simp; refine hK _ ?_; clear hK K; try simp only [put_lit, List.set_cons_zero, List.set_cons_succ]
          refine ha_k (i := 4) rfl (by kernel_rfl) (by kernel_rfl) (by kernel_rfl) (fun _ _ _ _ h => h) hS rfl (fun K hK => ?_); go_simp; refine hK _ ?_; clear hK K; try simp only [put_lit, List.set_cons_zero, List.set_cons_succ]
          refine ha_k (i := 5) rfl (by kernel_rfl) (by kernel_rfl) (by kernel_rfl) (fun _ _ _ _ h => h) hS rfl (fun K hK => ?_); go_simp; refine hK _ ?_; clear hK K; try simp only [put_lit, List.set_cons_zero, List.set_cons_succ]
          refine ha_k (i := 6) rfl (by kernel_rfl) (by kernel_rfl) (by kernel_rfl) (fun _ _ _ _ h => h) hS rfl (fun K hK => ?_); go_simp; refine hK _ ?_; clear hK K; try simp only [put_lit, List.set_cons_zero, List.set_cons_succ]
          refine ha_k (i := 7) rfl (by kernel_rfl) (by kernel_rfl) (by kernel_rfl) (fun _ _ _ _ h => h) hS rfl (fun K hK => ?_); go_simp; refine hK _ ?_; clear hK K; try simp only [put_lit, List.set_cons_zero, List.set_cons_succ]
          refine ha_two (i := 0) (j := 1) (by kernel_rfl) ?_ ?_
          · refine sh_val (i := 0) rfl rfl (ex_row rfl (rowIv h6)) hS ?_; try simp only [put_lit, List.set_cons_zero, List.set_cons_succ]
            refine ha_call (i := 1) (by kernel_rfl) rfl rfl (fun K hK => ?_); go_simp; refine ⟨_, _, ⟨rfl, rfl⟩, hK _ _ ⟨_, Of_any 10 (by decide) (by decide) _, ?_⟩⟩; clear hK K; rintro e w4 ⟨A3, c3, rfl, hI2, hb1⟩; refine ⟨_, rfl, hS.below hb1, ?_⟩; replace hS := hS.below hb1; replace h6 := below_look hb1 h6; replace h0 := below_look hb1 h0; replace hI' := hI'.below hb1; replace hb := hb.trans (hb1.mono hb.size); clear hb1; try simp only [put_lit, List.set_cons_zero, List.set_cons_succ]
            refine ha_call (i := 2) (by kernel_rfl) rfl rfl (fun K hK => ?_); go_simp; refine ⟨_, _, ⟨rfl, rfl⟩, hK _ _ ⟨_, TimesI_any _ _ _ _ _ _ _ hI' hI2 (by omega) (by omega), ?_⟩⟩; clear hK K; rintro e w5 ⟨A4, c4, rfl, hI3, hb1⟩; refine ⟨_, rfl, hS.below hb1, ?_⟩; replace hS := hS.below hb1; replace h6 := below_look hb1 h6; replace h0 := below_look hb1 h0; replace hI' := hI'.below hb1; replace hb := hb.trans (hb1.mono hb.size); clear hb1; try simp only [put_lit, List.set_cons_zero, List.set_cons_succ]
            refine ha_call (i := 8) (by kernel_rfl) rfl rfl (fun K hK => ?_); go_simp; refine ⟨_, _, ⟨rfl, rfl⟩, hK _ _ ⟨_, Of_any ((v : Int) - 48) (by omega) (by omega) _, ?_⟩⟩; clear hK K; rintro e w6 ⟨A5, c5, rfl, hI4, hb1⟩; refine ⟨_, rfl, hS.below hb1, ?_⟩; replace hS := hS.below hb1; replace h6 := below_look hb1 h6; replace h0 := below_look hb1 h0; replace hI3 := hI3.below hb1; replace hb := hb.trans (hb1.mono hb.size); clear hb1; try simp only [put_lit, List.set_cons_zero, List.set_cons_succ]
            refine ha_call (i := 9) (by kernel_rfl) rfl rfl (fun K hK => ?_); go_simp; refine ⟨_, _, ⟨rfl, rfl⟩, hK _ _ ⟨_, Sum2_any _ _ _ _ _ _ _ hI3 hI4 (by omega) (by omega), ?_⟩⟩; clear hK K; rintro e w7 ⟨A6, c6, rfl, hI5, hb1⟩; refine ⟨_, rfl, hS.below hb1, ?_⟩; replace hS := hS.below hb1; replace h6 := below_look hb1 h6; replace h0 := below_look hb1 h0; replace hb := hb.trans (hb1.mono hb.size); clear hb1; try simp only [put_lit, List.set_cons_zero, List.set_cons_succ]
            rw [HXS.out] at hI5 ⊢
            refine ha_store (i := 10) (by kernel_rfl) rfl rfl 41 _ _ rfl _ (iv (xk (m).data.toList (k + 1)) A6 c6) rfl rfl 41 _ h6 info84 rfl (iv_one _ _ _) (hS.setRow (by simp) _) (fun hS => ?_); try simp only [put_lit, List.set_cons_zero, List.set_cons_succ]
            refine wpAnyH_done (by kernel_rfl) ?_ _
            clear hI hI' hI2 hI3 hI4 n1 n2 n3 n4
            go_wp2_with fail
            go_roundw
            case rel => exact ⟨k + 1, A6, c6, by omega, by go_num, HO2, hr_new h6, hr_old h0 (by omega), hI5.put h6 _, below_setRow hb (by omega) _⟩
            case measure => simp [intOf]; omega
          · refine sh_call (i := 1) rfl rfl (fun K hK => ?_); go_simp; refine ⟨_, _, ⟨rfl, rfl⟩, hK _ _ ⟨_, Of_any 10 (by decide) (by decide) _, ?_⟩⟩; clear hK K; rintro e w4 ⟨A3, c3, rfl, hI2, hb1⟩; refine ⟨_, rfl, hS.below hb1, ?_⟩; replace hS := hS.below hb1; replace h6 := below_look hb1 h6; replace h0 := below_look hb1 h0; replace hI' := hI'.below hb1; replace hb := hb.trans (hb1.mono hb.size); clear hb1; try simp only [put_lit, List.set_cons_zero, List.set_cons_succ]
            refine ha_do (i := 0) (by kernel_rfl) rfl rfl (ex_row rfl (rowIv h6)) hS ?_; try simp only [put_lit, List.set_cons_zero, List.set_cons_succ]
            refine ha_call (i := 2) (by kernel_rfl) rfl rfl (fun K hK => ?_); go_simp; refine ⟨_, _, ⟨rfl, rfl⟩, hK _ _ ⟨_, TimesI_any _ _ _ _ _ _ _ hI' hI2 (by omega) (by omega), ?_⟩⟩; clear hK K; rintro e w5 ⟨A4, c4, rfl, hI3, hb1⟩; refine ⟨_, rfl, hS.below hb1, ?_⟩; replace hS := hS.below hb1; replace h6 := below_look hb1 h6; replace h0 := below_look hb1 h0; replace hI' := hI'.below hb1; replace hb := hb.trans (hb1.mono hb.size); clear hb1; try simp only [put_lit, List.set_cons_zero, List.set_cons_succ]
            refine ha_call (i := 8) (by kernel_rfl) rfl rfl (fun K hK => ?_); go_simp; refine ⟨_, _, ⟨rfl, rfl⟩, hK _ _ ⟨_, Of_any ((v : Int) - 48) (by omega) (by omega) _, ?_⟩⟩; clear hK K; rintro e w6 ⟨A5, c5, rfl, hI4, hb1⟩; refine ⟨_, rfl, hS.below hb1, ?_⟩; replace hS := hS.below hb1; replace h6 := below_look hb1 h6; replace h0 := below_look hb1 h0; replace hI3 := hI3.below hb1; replace hb := hb.trans (hb1.mono hb.size); clear hb1; try simp only [put_lit, List.set_cons_zero, List.set_cons_succ]
            refine ha_call (i := 9) (by kernel_rfl) rfl rfl (fun K hK => ?_); go_simp; refine ⟨_, _, ⟨rfl, rfl⟩, hK _ _ ⟨_, Sum2_any _ _ _ _ _ _ _ hI3 hI4 (by omega) (by omega), ?_⟩⟩; clear hK K; rintro e w7 ⟨A6, c6, rfl, hI5, hb1⟩; refine ⟨_, rfl, hS.below hb1, ?_⟩; replace hS := hS.below hb1; replace h6 := below_look hb1 h6; replace h0 := below_look hb1 h0; replace hb := hb.trans (hb1.mono hb.size); clear hb1; try simp only [put_lit, List.set_cons_zero, List.set_cons_succ]
            rw [HXS.out] at hI5 ⊢
            refine ha_store (i := 10) (by kernel_rfl) rfl rfl 41 _ _ rfl _ (iv (xk (m).data.toList (k + 1)) A6 c6) rfl rfl 41 _ h6 info84 rfl (iv_one _ _ _) (hS.setRow (by simp) _) (fun hS => ?_); try simp only [put_lit, List.set_cons_zero, List.set_cons_succ]
            refine wpAnyH_done (by kernel_rfl) ?_ _
            clear hI hI' hI2 hI3 hI4 n1 n2 n3 n4
            go_wp2_with fail
            go_roundw
            case rel => exact ⟨k + 1, A6, c6, by omega, by go_num, HO2, hr_new h6, hr_old h0 (by omega), hI5.put h6 _, below_setRow hb (by omega) _⟩
            case measure => simp [intOf]; omega
        · obtain rfl : k = (m).size := by omega
          have hall : (m).data.toList.all okc = true := by
            rw [List.all_eq_true]
            intro x hx
            apply HO.out
            rw [List.take_of_length_le (by simp)]
            exact hx
          have HN := Lib.hid (HG.out hall)
          have hxe : xk (m).data.toList (m).size = ((rv (m).data.toList.reverse : Nat) : Int) := by unfold xk; rw [List.take_of_length_le (by simp)]
          rw [hxe] at h6 hI
          clear hxe hall
          have m1 := iv1 h6
          rw [Int.natAbs_natCast] at m1
          go_upto_region 14 with (fail)
          apply wp_region_lit
          refine wl_k rfl (fun K hK => ?_); go_simp; refine hK _ ?_; clear hK K
          refine wl_k rfl (fun K hK => ?_); go_simp; refine hK _ ?_; clear hK K
          ((with_reducible apply wl_oneG); exact rfl; exact rfl; exact one82 (by with_reducible assumption))
          clear m1
          refine wl_ck rfl (fun K hK => ?_); go_simp; refine ⟨_, _, ⟨rfl, rfl⟩, hK _ _ ⟨_, signedI_any false A _ c _, ?_⟩⟩; clear hK K; rintro e w8 ⟨rfl, hb1⟩; refine ⟨_, rfl, ?_⟩; simp only [put_lit, List.set_cons_zero, List.set_cons_succ]
          replace hI := hI.below hb1
          replace h0 := below_look hb1 h0
          replace hb := hb.trans (hb1.mono hb.size)
          clear hb1
          have hJ : IvAt w8 (sg false (rv (m).data.toList.reverse)) A c := by
            obtain ⟨i1, i2⟩ := hI
            rw [Int.natAbs_natCast] at i1 i2
            exact ⟨by rw [sg_bd]; exact i1, by rw [sg_bd]; exact i2⟩
          ((with_reducible apply wl_putI); exact rfl; exact rfl; exact h0; intro w9 hbx hk hq hi; replace hJ := hi _ _ _ hJ; replace hb := hbx _ _ (by omega) hb; clear h0; have h0 := hq; clear hbx hk hq hi)
          go_wp2_with fail
          refine bodyPost_ret (res_ivT rfl _ _ w.heap.size rfl h0) rfl ?_
          rw [HN.out]
          exact ⟨A, c, rfl, hJ, hb⟩
  · have HG := Lib.hid (HB.out.good (by omega) hpos (Or.inl hz))
    have hz' : ¬ (((m)[0]'hpos).toNat : Int) = 48 := by omega
    have h40' : ¬ (40 : Int) < (m.size : Int) := by omega
    have hds : (m).size ≤ 40 := by omega
    clear hDS hd0
    go_upto_region 7 with (fail)
    clear hz hz' h40 h40'
    clear hne1 hne2
    apply wp_region_lit
    refine wl_val rfl (ex_build 41 _ rfl (L := []) rfl built84z) ?_
    simp only [put_lit, List.set_cons_zero, List.set_cons_succ]
    (have lth0p6 := heap_lt h0; have lsp6 := hb.size; (with_reducible apply wl_new84); intro w2 p6 hbn hlp6 hp6; replace h0 := below_look hbn h0; replace hb := hb.trans (hbn.mono hb.size); clear hbn)
    ((with_reducible apply wl_putI); exact rfl; exact rfl; exact hp6; intro w3 hbx hk hq hi; replace h0 := hk _ _ (by omega) h0; replace hb := hbx _ _ (by omega) hb; clear hp6; have hp6 := hq; clear hbx hk hq hi)
    go_wp2_with fail
    go_loopw [7] (fun i wr => ∃ (k : Nat) (A : Option Addr) (c : Nat), k ≤ (m).size ∧ i = .int .i64 (k : Int) ∧ Hid (∀ c ∈ (m).data.toList.take k, okc c = true) ∧ wr.heap[p6]? = some (.cells (iv (xk (m).data.toList k) A c) 41 (0, 0)) ∧ wr.heap[w.heap.size]? = some (.cells (iv 0 none 0) 41 (0, 0)) ∧ IvAt wr (xk (m).data.toList k) A c ∧ Below w.heap.size w wr) (fun i _ => ((m).size - intOf i).toNat)
    case atStart => exact ⟨0, none, 0, by omega, rfl, Lib.hid (by simp), by rw [xk_zero]; exact hp6, h0, by rw [xk_zero]; exact IvAt.zero _, hb⟩
    case round =>
      clear h0 hp6 hb
      obtain ⟨k, A, c, hk, rfl, HO, h6, h0, hI, hb⟩ := hrel
      by_cases hlt : k < (m).size
      · obtain ⟨b, hbb⟩ : ∃ b, b = ((m)[k]'hlt) := ⟨_, rfl⟩
        have hb0 : b.toNat < 256 := UInt8.toNat_lt b
        have HBB := Lib.hid hbb
        by_cases hlo : b.toNat < 48
        · have HN := Lib.hid (HB.out.bad (List.all_eq_false.2 ⟨b, by rw [hbb]; exact List.getElem_mem (l := (m).data.toList) (by simpa using hlt), by unfold okc; simp; omega⟩))
          have hlo' : (((m)[k]'hlt).toNat : Int) < 48 := by rw [← hbb]; omega
          clear hbb hI h6 hlo
          have c0 := iv0 h0
          have c1 := iv1 h0
          have f0 : wr.frozen? ⟨w.heap.size, 0, none⟩ = false := frozen_of_row _ _ _ _ _ h0
          have f1 : wr.frozen? ⟨w.heap.size, 1, none⟩ = false := frozen_of_row _ _ _ _ _ h0
          go_wp2_with fail
          refine bodyPost_ret (res_ivT rfl _ _ w.heap.size rfl ((hs_new (hs_new h0)).trans iv_set)) rfl ?_
          rw [HN.out]
          exact ⟨none, 0, rfl, IvAt.zero _, (hb.setCell (by simp) _).setCell (by simp) _⟩
        by_cases hhi : 57 < b.toNat
        · have HN := Lib.hid (HB.out.bad (List.all_eq_false.2 ⟨b, by rw [hbb]; exact List.getElem_mem (l := (m).data.toList) (by simpa using hlt), by unfold okc; simp; omega⟩))
          have hlo' : ¬ (((m)[k]'hlt).toNat : Int) < 48 := by rw [← hbb]; omega
          have hhi' : (57 : Int) < (((m)[k]'hlt).toNat : Int) := by rw [← hbb]; omega
          clear hbb hI h6 hlo hhi
          have c0 := iv0 h0
          have c1 := iv1 h0
          have f0 : wr.frozen? ⟨w.heap.size, 0, none⟩ = false := frozen_of_row _ _ _ _ _ h0
          have f1 : wr.frozen? ⟨w.heap.size, 1, none⟩ = false := frozen_of_row _ _ _ _ _ h0
          go_wp2_with fail
          refine bodyPost_ret (res_ivT rfl _ _ w.heap.size rfl ((hs_new (hs_new h0)).trans iv_set)) rfl ?_
          rw [HN.out]
          exact ⟨none, 0, rfl, IvAt.zero _, (hb.setCell (by simp) _).setCell (by simp) _⟩
        have hlo' : ¬ (((m)[k]'hlt).toNat : Int) < 48 := by rw [← hbb]; omega
        have hhi' : ¬ (57 : Int) < (((m)[k]'hlt).toNat : Int) := by rw [← hbb]; omega
        have hkb : (m).data.toList[k]? = some ((m)[k]'hlt) := by
          rw [List.getElem?_eq_getElem (by simpa using hlt)]; rfl
        have HXS := Lib.hid (xk_succ (m).data.toList k _ hkb (by rw [← hbb]; omega))
        have n1 := xk_nl (m).data.toList k (by omega) HO.out
        have HO2 : Hid (∀ c ∈ (m).data.toList.take (k + 1), okc c = true) := Lib.hid (by
          intro c hc
          rw [List.take_add_one, hkb] at hc
          rcases List.mem_append.1 hc with h | h
          · exact HO.out c h
          · simp at h
            rw [h, ← hbb]
            unfold okc
            simp; omega)
        have n2 : nl (10 : Int).natAbs ≤ 1 := nl_small (by decide)
        have n3 := nl_mul (xk (m).data.toList k) 10
        obtain ⟨v, hv⟩ : ∃ v, ((m)[k]'hlt).toNat = v := ⟨_, rfl⟩
        have ev : (((m)[k]'hlt).toNat : Int) = (v : Int) := by rw [hv]
        rw [hv] at HXS
        have v1 : (48 : Int) ≤ (v : Int) := by omega
        have v2 : (v : Int) ≤ 57 := by omega
        have wv : IntKind.u8.wrap ((v : Int) - 48) = (v : Int) - 48 := IntWalk.u8_in _ ⟨by omega, by omega⟩
        have wi : IntKind.i64.wrap ((v : Int) - 48) = (v : Int) - 48 := IntWalk.i64_in _ (by omega)
        have n4 : nl ((v : Int) - 48 : Int).natAbs ≤ 1 := nl_small (by omega)
        clear hbb hkb hlo hhi hv
        go_upto_region 13 with (fail)
        have hI' := hI.below (Below.refl _ wr).drew
        replace hb := hb.drew
        refine wp_region_held_drew (S := Kept [p6] wr) mixed (Kept.drew [p6] wr) (fun hS => ?_)
        refine ha_k (i := 3) rfl (by kernel_rfl) (by kernel_rfl) (by kernel_rfl) (fun _ _ _ _ h => h) hS rfl (fun K hK => ?_); go_simp; refine hK _ ?_; clear hK K; try simp only [put_lit, List.set_cons_zero, List.set_cons_succ]
        refine ha_k (i := 4) rfl (by kernel_rfl) (by kernel_rfl) (by kernel_rfl) (fun _ _ _ _ h => h) hS rfl (fun K hK => ?_); go_simp; refine hK _ ?_; clear hK K; try simp only [put_lit, List.set_cons_zero, List.set_cons_succ]
        refine ha_k (i := 5) rfl (by kernel_rfl) (by kernel_rfl) (by kernel_rfl) (fun _ _ _ _ h => h) hS rfl (fun K hK => ?_); go_simp; refine hK _ ?_; clear hK K; try simp only [put_lit, List.set_cons_zero, List.set_cons_succ]
        refine ha_k (i := 6) rfl (by kernel_rfl) (by kernel_rfl) (by kernel_rfl) (fun _ _ _ _ h => h) hS rfl (fun K hK => ?_); go_simp; refine hK _ ?_; clear hK K; try simp only [put_lit, List.set_cons_zero, List.set_cons_succ]
        refine ha_k (i := 7) rfl (by kernel_rfl) (by kernel_rfl) (by kernel_rfl) (fun _ _ _ _ h => h) hS rfl (fun K hK => ?_); go_simp; refine hK _ ?_; clear hK K; try simp only [put_lit, List.set_cons_zero, List.set_cons_succ]
        refine ha_two (i := 0) (j := 1) (by kernel_rfl) ?_ ?_
        · refine sh_val (i := 0) rfl rfl (ex_row rfl (rowIv h6)) hS ?_; try simp only [put_lit, List.set_cons_zero, List.set_cons_succ]
          refine ha_call (i := 1) (by kernel_rfl) rfl rfl (fun K hK => ?_); go_simp; refine ⟨_, _, ⟨rfl, rfl⟩, hK _ _ ⟨_, Of_any 10 (by decide) (by decide) _, ?_⟩⟩; clear hK K; rintro e w4 ⟨A3, c3, rfl, hI2, hb1⟩; refine ⟨_, rfl, hS.below hb1, ?_⟩; replace hS := hS.below hb1; replace h6 := below_look hb1 h6; replace h0 := below_look hb1 h0; replace hI' := hI'.below hb1; replace hb := hb.trans (hb1.mono hb.size); clear hb1; try simp only [put_lit, List.set_cons_zero, List.set_cons_succ]
          refine ha_call (i := 2) (by kernel_rfl) rfl rfl (fun K hK => ?_); go_simp; refine ⟨_, _, ⟨rfl, rfl⟩, hK _ _ ⟨_, TimesI_any _ _ _ _ _ _ _ hI' hI2 (by omega) (by omega), ?_⟩⟩; clear hK K; rintro e w5 ⟨A4, c4, rfl, hI3, hb1⟩; refine ⟨_, rfl, hS.below hb1, ?_⟩; replace hS := hS.below hb1; replace h6 := below_look hb1 h6; replace h0 := below_look hb1 h0; replace hI' := hI'.below hb1; replace hb := hb.trans (hb1.mono hb.size); clear hb1; try simp only [put_lit, List.set_cons_zero, List.set_cons_succ]
          refine ha_call (i := 8) (by kernel_rfl) rfl rfl (fun K hK => ?_); go_simp; refine ⟨_, _, ⟨rfl, rfl⟩, hK _ _ ⟨_, Of_any ((v : Int) - 48) (by omega) (by omega) _, ?_⟩⟩; clear hK K; rintro e w6 ⟨A5, c5, rfl, hI4, hb1⟩; refine ⟨_, rfl, hS.below hb1, ?_⟩; replace hS := hS.below hb1; replace h6 := below_look hb1 h6; replace h0 := below_look hb1 h0; replace hI3 := hI3.below hb1; replace hb := hb.trans (hb1.mono hb.size); clear hb1; try simp only [put_lit, List.set_cons_zero, List.set_cons_succ]
          refine ha_call (i := 9) (by kernel_rfl) rfl rfl (fun K hK => ?_); go_simp; refine ⟨_, _, ⟨rfl, rfl⟩, hK _ _ ⟨_, Sum2_any _ _ _ _ _ _ _ hI3 hI4 (by omega) (by omega), ?_⟩⟩; clear hK K; rintro e w7 ⟨A6, c6, rfl, hI5, hb1⟩; refine ⟨_, rfl, hS.below hb1, ?_⟩; replace hS := hS.below hb1; replace h6 := below_look hb1 h6; replace h0 := below_look hb1 h0; replace hb := hb.trans (hb1.mono hb.size); clear hb1; try simp only [put_lit, List.set_cons_zero, List.set_cons_succ]
          rw [HXS.out] at hI5 ⊢
          refine ha_store (i := 10) (by kernel_rfl) rfl rfl 41 _ _ rfl _ (iv (xk (m).data.toList (k + 1)) A6 c6) rfl rfl 41 _ h6 info84 rfl (iv_one _ _ _) (hS.setRow (by simp) _) (fun hS => ?_); try simp only [put_lit, List.set_cons_zero, List.set_cons_succ]
          refine wpAnyH_done (by kernel_rfl) ?_ _
          clear hI hI' hI2 hI3 hI4 n1 n2 n3 n4
          go_wp2_with fail
          go_roundw
          case rel => exact ⟨k + 1, A6, c6, by omega, by go_num, HO2, hr_new h6, hr_old h0 (by omega), hI5.put h6 _, below_setRow hb (by omega) _⟩
          case measure => simp [intOf]; omega
        · refine sh_call (i := 1) rfl rfl (fun K hK => ?_); go_simp; refine ⟨_, _, ⟨rfl, rfl⟩, hK _ _ ⟨_, Of_any 10 (by decide) (by decide) _, ?_⟩⟩; clear hK K; rintro e w4 ⟨A3, c3, rfl, hI2, hb1⟩; refine ⟨_, rfl, hS.below hb1, ?_⟩; replace hS := hS.below hb1; replace h6 := below_look hb1 h6; replace h0 := below_look hb1 h0; replace hI' := hI'.below hb1; replace hb := hb.trans (hb1.mono hb.size); clear hb1; try simp only [put_lit, List.set_cons_zero, List.set_cons_succ]
          refine ha_do (i := 0) (by kernel_rfl) rfl rfl (ex_row rfl (rowIv h6)) hS ?_; try simp only [put_lit, List.set_cons_zero, List.set_cons_succ]
          refine ha_call (i := 2) (by kernel_rfl) rfl rfl (fun K hK => ?_); go_simp; refine ⟨_, _, ⟨rfl, rfl⟩, hK _ _ ⟨_, TimesI_any _ _ _ _ _ _ _ hI' hI2 (by omega) (by omega), ?_⟩⟩; clear hK K; rintro e w5 ⟨A4, c4, rfl, hI3, hb1⟩; refine ⟨_, rfl, hS.below hb1, ?_⟩; replace hS := hS.below hb1; replace h6 := below_look hb1 h6; replace h0 := below_look hb1 h0; replace hI' := hI'.below hb1; replace hb := hb.trans (hb1.mono hb.size); clear hb1; try simp only [put_lit, List.set_cons_zero, List.set_cons_succ]
          refine ha_call (i := 8) (by kernel_rfl) rfl rfl (fun K hK => ?_); go_simp; refine ⟨_, _, ⟨rfl, rfl⟩, hK _ _ ⟨_, Of_any ((v : Int) - 48) (by omega) (by omega) _, ?_⟩⟩; clear hK K; rintro e w6 ⟨A5, c5, rfl, hI4, hb1⟩; refine ⟨_, rfl, hS.below hb1, ?_⟩; replace hS := hS.below hb1; replace h6 := below_look hb1 h6; replace h0 := below_look hb1 h0; replace hI3 := hI3.below hb1; replace hb := hb.trans (hb1.mono hb.size); clear hb1; try simp only [put_lit, List.set_cons_zero, List.set_cons_succ]
          refine ha_call (i := 9) (by kernel_rfl) rfl rfl (fun K hK => ?_); go_simp; refine ⟨_, _, ⟨rfl, rfl⟩, hK _ _ ⟨_, Sum2_any _ _ _ _ _ _ _ hI3 hI4 (by omega) (by omega), ?_⟩⟩; clear hK K; rintro e w7 ⟨A6, c6, rfl, hI5, hb1⟩; refine ⟨_, rfl, hS.below hb1, ?_⟩; replace hS := hS.below hb1; replace h6 := below_look hb1 h6; replace h0 := below_look hb1 h0; replace hb := hb.trans (hb1.mono hb.size); clear hb1; try simp only [put_lit, List.set_cons_zero, List.set_cons_succ]
          rw [HXS.out] at hI5 ⊢
          refine ha_store (i := 10) (by kernel_rfl) rfl rfl 41 _ _ rfl _ (iv (xk (m).data.toList (k + 1)) A6 c6) rfl rfl 41 _ h6 info84 rfl (iv_one _ _ _) (hS.setRow (by simp) _) (fun hS => ?_); try simp only [put_lit, List.set_cons_zero, List.set_cons_succ]
          refine wpAnyH_done (by kernel_rfl) ?_ _
          clear hI hI' hI2 hI3 hI4 n1 n2 n3 n4
          go_wp2_with fail
          go_roundw
          case rel => exact ⟨k + 1, A6, c6, by omega, by go_num, HO2, hr_new h6, hr_old h0 (by omega), hI5.put h6 _, below_setRow hb (by omega) _⟩
          case measure => simp [intOf]; omega
      · obtain rfl : k = (m).size := by omega
        have hall : (m).data.toList.all okc = true := by
          rw [List.all_eq_true]
          intro x hx
          apply HO.out
          rw [List.take_of_length_le (by simp)]
          exact hx
        have HN := Lib.hid (HG.out hall)
        have hxe : xk (m).data.toList (m).size = ((rv (m).data.toList.reverse : Nat) : Int) := by unfold xk; rw [List.take_of_length_le (by simp)]
        rw [hxe] at h6 hI
        clear hxe hall
        have m1 := iv1 h6
        rw [Int.natAbs_natCast] at m1
        go_upto_region 14 with (fail)
        apply wp_region_lit
        refine wl_k rfl (fun K hK => ?_); go_simp; refine hK _ ?_; clear hK K
        refine wl_k rfl (fun K hK => ?_); go_simp; refine hK _ ?_; clear hK K
        ((with_reducible apply wl_oneG); exact rfl; exact rfl; exact one82 (by with_reducible assumption))
        clear m1
        refine wl_ck rfl (fun K hK => ?_); go_simp; refine ⟨_, _, ⟨rfl, rfl⟩, hK _ _ ⟨_, signedI_any false A _ c _, ?_⟩⟩; clear hK K; rintro e w8 ⟨rfl, hb1⟩; refine ⟨_, rfl, ?_⟩; simp only [put_lit, List.set_cons_zero, List.set_cons_succ]
        replace hI := hI.below hb1
        replace h0 := below_look hb1 h0
        replace hb := hb.trans (hb1.mono hb.size)
        clear hb1
        have hJ : IvAt w8 (sg false (rv (m).data.toList.reverse)) A c := by
          obtain ⟨i1, i2⟩ := hI
          rw [Int.natAbs_natCast] at i1 i2
          exact ⟨by rw [sg_bd]; exact i1, by rw [sg_bd]; exact i2⟩
        ((with_reducible apply wl_putI); exact rfl; exact rfl; exact h0; intro w9 hbx hk hq hi; replace hJ := hi _ _ _ hJ; replace hb := hbx _ _ (by omega) hb; clear h0; have h0 := hq; clear hbx hk hq hi)
        go_wp2_with fail
        refine bodyPost_ret (res_ivT rfl _ _ w.heap.size rfl h0) rfl ?_
        rw [HN.out]
        exact ⟨A, c, rfl, hJ, hb⟩
set_option maxHeartbeats 1000000 in
theorem ReadI_empty (m : ByteArray) (hms : m.size = 0) (w : World) :
    Calls Tryz.prog 13 #[.string m] w fun e w' => ∃ A c, e = .returned (.tuple #[.agg (iv ((rdm m).getD 0) A c), .bool (rdm m).isSome]) ∧ IvAt w' ((rdm m).getD 0) A c ∧ Below w.heap.size w w' := by
  have HN := Lib.hid (rdm_empty hms)
  go_enter Tryz.func13, Tryz.ntmps13
  go_upto_region 1 with (fail)
  refine wp_world (fun W => W.heap[w.heap.size]? = some (.cells (iv 0 none 0) 41 (0, 0)) ∧ Below w.heap.size w W) ⟨by rw [iv_zero]; exact ha_new rfl, (Below.refl _ _).alloc (Nat.le_refl _) _⟩ ?_
  rintro W ⟨h0, hb⟩
  have c0 := iv0 h0
  have c1 := iv1 h0
  have f0 : W.frozen? ⟨w.heap.size, 0, none⟩ = false := frozen_of_row _ _ _ _ _ h0
  have f1 : W.frozen? ⟨w.heap.size, 1, none⟩ = false := frozen_of_row _ _ _ _ _ h0
  go_wp2_with fail
  refine bodyPost_ret (res_ivT rfl _ _ w.heap.size rfl ((hs_new (hs_new h0)).trans iv_set)) rfl ?_
  rw [HN.out]
  exact ⟨none, 0, rfl, IvAt.zero _, (hb.setCell (by simp) _).setCell (by simp) _⟩
theorem ReadI_any (m : ByteArray) (w : World) :
    Calls Tryz.prog 13 #[.string m] w fun e w' => ∃ A c, e = .returned (.tuple #[.agg (iv ((rdm m).getD 0) A c), .bool (rdm m).isSome]) ∧ IvAt w' ((rdm m).getD 0) A c ∧ Below w.heap.size w w' := by
  by_cases h0 : m.size = 0
  · exact ReadI_empty m h0 w
  · have hp : 0 < m.size := by omega
    by_cases hc : (m[0]'hp).toNat = 45
    · exact ReadI_neg m hp (by rw [hc]; rfl) _ rfl (Lib.hid (behind_neg hp hc)) w
    · exact ReadI_pos m hp (by rw [beq_eq_false_iff_ne]; omega) (Lib.hid (behind_pos hp hc)) w
end Go.Proofs.YtclainfdeghgnaaGreatDoor
