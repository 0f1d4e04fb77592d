/- The reader in memory: list. -/
import Derived.Test.YtokmaehefenpmaaDoorX10
import Derived.Test.YtokmaehefenpmaaDoorV2
namespace Go.Proofs.YtokmaehefenpmaaDoor
open Go.RowKit Go.Proofs.YtokmaehefenpmaaDoor.Nm
set_option linter.unusedSimpArgs false
def RPost (r : Nat) (t : Ty) (l1 : List UInt8) (f : Bool) (w : World) (e : Ending) (w' : World) : Prop := ∃ row, e = .returned (.agg row) ∧ TyAt w' (fun b => w.heap.size ≤ b) t row ∧ Rs w' r l1 f ∧ Fr r r w w'
def RdC (left : Nat) : Prop := ∀ (w : World) (r : Nat) (l : List UInt8), l.length ≤ 10000 → Rs w r l false → ∀ t l1 f, rdTyp left l = some (t, l1, f) → Calls Tryd.prog 63 #[.pointer (some ⟨r, 0, none⟩), .int .i64 (left : Int)] w (RPost r t l1 f w)
def LPost (r : Nat) (ts : List Ty) (l1 : List UInt8) (f : Bool) (w : World) (e : Ending) (w' : World) : Prop := ∃ A n c, e = .returned (.slice A n c) ∧ OwnT w' w.heap.size (.slice A n c) ts ∧ Rs w' r l1 f ∧ Fr r r w w'
def meas (r : Nat) (w : World) : Nat := match w.cell? ⟨r, 0, none⟩, w.cell? ⟨r, 1, none⟩ with
  | some (.string s), some (.bool f) => if f then 0 else s.size + 1
  | _, _ => 0
theorem Rs.meas {w : World} {r : Nat} {l : List UInt8} {f : Bool} (h : Rs w r l f) : meas r w = if f then 0 else l.length + 1 := by
  unfold YtokmaehefenpmaaDoor.meas
  rw [cell_of_row _ _ _ _ _ _ h, cell_of_row _ _ _ _ _ _ h]
  simp [strOf_size]
theorem OwnT.fr {w w' : World} {B r : Nat} {v : Value} {ts : List Ty} (h : OwnT w B v ts) (hr : r < B) (hf : Fr r r w w') : OwnT w' B v ts := h.same fun q hq hl => hf.keep q hl (by omega) (by omega)
set_option maxHeartbeats 4000000 in
set_option maxRecDepth 100000 in
theorem list_rd (left : Nat) (_hl2 : left ≤ 1000) (hR : RdC left) (e : ByteArray) (r : Nat) (l : List UInt8) (hlen : l.length ≤ 10000) (w : World) (h : Rs w r l false) (ts : List Ty) (l1 : List UInt8) (f : Bool) (hx : rdArgs (rdTyp left) e.data.toList l = some (ts, l1, f)) :
    Calls Tryd.prog 87 #[.pointer (some ⟨r, 0, none⟩), .string e, .int .i64 (left : Int)] w (LPost r ts l1 f w) := by
  unfold rdArgs at hx
  cases ht : takeL e.data.toList l with
  | some l2 =>
    rw [ht] at hx
    cases hx
    have HC := Lib.hid (take_some r e l l1 false w h ht)
    clear ht hR h
    go_enter Tryd.func87, Tryd.ntmps87
    go_upto_region 2 with (fail)
    apply wp_region_lit
    (with_reducible refine wl_k ?_ ?_); exact rfl; intro K hK; go_simp; refine hK _ ?_; clear hK K
    (with_reducible refine wl_k ?_ ?_); exact rfl; intro K hK; go_simp; refine hK _ ?_; clear hK K
    (with_reducible refine wl_ck ?_ ?_); exact rfl; intro K hK; go_simp; refine ⟨_, _, ⟨rfl, rfl⟩, hK _ _ ⟨_, HC.out, ?_⟩⟩; clear hK K; rintro e w3 ⟨rfl, hn, hf⟩; refine ⟨_, rfl, ?_⟩; simp only [put_lit, List.set_cons_zero, List.set_cons_succ]
    have HN := Lib.hid hn
    have HF := Lib.hid hf
    clear HC hn hf
    go_wp2_with fail
    go_ret
    exact ⟨_, _, _, rfl, OwnT.nil _ _, HN.out, HF.out⟩
  | none =>
    rw [ht] at hx
    simp only at hx
    have HX := Lib.hid hx
    have HC := Lib.hid (take_none r e l false w h ht)
    have HRD := Lib.hid hR
    have hrw := h.lt
    have HS0 := Lib.hid h
    clear ht hx hR h
    go_enter Tryd.func87, Tryd.ntmps87
    go_upto_region 2 with (fail)
    apply wp_region_lit
    (with_reducible refine wl_k ?_ ?_); exact rfl; intro K hK; go_simp; refine hK _ ?_; clear hK K
    (with_reducible refine wl_k ?_ ?_); exact rfl; intro K hK; go_simp; refine hK _ ?_; clear hK K
    (with_reducible refine wl_ck ?_ ?_); exact rfl; intro K hK; go_simp; refine ⟨_, _, ⟨rfl, rfl⟩, hK _ _ ⟨_, HC.out, ?_⟩⟩; clear hK K; rintro e w3 ⟨rfl, rfl⟩; refine ⟨_, rfl, ?_⟩; simp only [put_lit, List.set_cons_zero, List.set_cons_succ]
    clear HC
    go_wp2_with fail
    go_loopw [7] (fun v wr => ∃ (acc : List Ty) (s : List UInt8) (n : Nat) (g : Bool) (A' : Option Addr) (l' c' : Nat), v = .slice A' l' c' ∧ Hid (OwnT wr w.heap.size (.slice A' l' c') acc) ∧ Hid (Rs wr r s g) ∧ Hid (g = false → rdList (rdTyp left) e.data.toList n acc s = some (ts, l1, f)) ∧ Hid (g = true → (acc, s, true) = (ts, l1, f)) ∧ Hid (acc.length + s.length ≤ 10000) ∧ Hid (Fr r r w wr)) (fun _ wr => meas r wr)
    case atStart => exact ⟨[], l, _, false, none, 0, 0, rfl, Lib.hid (OwnT.nil _ _), HS0, Lib.hid (fun _ => HX.out), Lib.hid (fun h => by cases h), Lib.hid (by simpa using hlen), Lib.hid (Fr.of (Below.refl _ _))⟩
    case round =>
      obtain ⟨acc, s, n, g, A', l', c', rfl, HO, HS, HL1, HL2, HLN, HF⟩ := hrel
      have hs := HS.out
      go_upto_region 4 with (fail)
      cases g with
      | true =>
        have HE := Lib.hid (HL2.out rfl)
        apply wp_region_lit
        (with_reducible refine wl_k ?_ ?_); exact rfl; intro K hK; go_simp; refine hK _ ?_; clear hK K
        (with_reducible refine wl_k ?_ ?_); exact rfl; intro K hK; go_simp; refine hK _ ?_; clear hK K
        (with_reducible refine wl_k ?_ ?_); exact rfl; intro K hK; go_simp; refine hK _ ?_; clear hK K
        ((with_reducible apply wl_oneG); exact rfl; exact rfl; exact r1 hs)
        (with_reducible refine wl_k ?_ ?_); exact rfl; intro K hK; go_simp; refine hK _ ?_; clear hK K
        clear hs
        go_wp2_with fail
        go_ret
        obtain ⟨rfl, rfl, rfl⟩ : acc = ts ∧ s = l1 ∧ true = f := by have := HE.out; simpa using this
        exact ⟨_, _, _, rfl, HO.out, HS.out, HF.out⟩
      | false =>
        have hL := HL1.out rfl
        cases n with
        | zero => simp [rdList] at hL
        | succ n =>
        simp only [rdList] at hL
        cases hrd : rdTyp left s with
        | none => rw [hrd] at hL; cases hL
        | some q =>
        obtain ⟨t, s1, g1⟩ := q
        rw [hrd] at hL
        simp only at hL
        have HLL := Lib.hid hL
        have HT := Lib.hid (HRD.out wr r s (by have := HLN.out; omega) HS.out t s1 g1 hrd)
        have hle1 := rdTyp_len left _ _ _ _ hrd
        have HMS := Lib.hid (HS.out.meas)
        clear hrd hL HL1 HL2
        apply wp_region_lit
        (with_reducible refine wl_k ?_ ?_); exact rfl; intro K hK; go_simp; refine hK _ ?_; clear hK K
        (with_reducible refine wl_k ?_ ?_); exact rfl; intro K hK; go_simp; refine hK _ ?_; clear hK K
        (with_reducible refine wl_k ?_ ?_); exact rfl; intro K hK; go_simp; refine hK _ ?_; clear hK K
        ((with_reducible apply wl_oneG); exact rfl; exact rfl; exact r1 hs)
        (with_reducible refine wl_k ?_ ?_); exact rfl; intro K hK; go_simp; refine hK _ ?_; clear hK K
        clear hs HS
        have hwz := HF.out.size
        go_upto_region 5 with (fail)
        apply wp_region_lit
        (with_reducible refine wl_k ?_ ?_); exact rfl; intro K hK; go_simp; refine hK _ ?_; clear hK K
        (with_reducible refine wl_k ?_ ?_); exact rfl; intro K hK; go_simp; refine hK _ ?_; clear hK K
        (with_reducible refine wl_ck ?_ ?_); exact rfl; intro K hK; go_simp; refine ⟨_, _, ⟨rfl, rfl⟩, hK _ _ ⟨_, HT.out, ?_⟩⟩; clear hK K; rintro e w7 ⟨row7, rfl, hta7, hs7, hf7⟩; refine ⟨_, rfl, ?_⟩; simp only [put_lit, List.set_cons_zero, List.set_cons_succ]
        obtain ⟨k7, s7, n7, A7, l7, c7, ts7, hu7, rfl, -⟩ := hta7.parts
        have HA := Lib.hid (HO.out.apart hwz hta7)
        have HO7 := Lib.hid (HO.out.fr hrw hf7)
        have HF7 := Lib.hid (HF.out.trans hf7)
        have HS7 := Lib.hid hs7
        have hrw7 := hs7.lt
        have hsz7 := hf7.size
        have hz := Below.refl w7.heap.size w7
        clear hta7 hs7 hf7 HT hu7
        (with_reducible refine wl_all ?_); intro X1 q hbn hlq hq; replace hz := hz.trans (hbn.mono hz.size); clear hbn; simp only [put_lit, List.set_cons_zero, List.set_cons_succ]
        (with_reducible refine wl_put rfl rfl hq ?_); rw [put_noneA]; intro X2 hbx hsz hkx hnx; replace hz := hbx _ _ (by omega) hz; clear hq; have hq := hnx; clear hnx
        clear hbx hkx hsz
        clear HO HF
        go_upto_region 6 with (fail)
        apply wp_region_lit
        (with_reducible refine wl_k ?_ ?_); exact rfl; intro K hK; go_simp; refine hK _ ?_; clear hK K
        (first | ((with_reducible apply wl_oneG); exact rfl; exact rfl; first | exact f0 (by with_reducible assumption) | exact f1 (by with_reducible assumption) | exact f2 (by with_reducible assumption) | exact f3 (by with_reducible assumption) | with_reducible assumption | exact g22 (by with_reducible assumption) | exact g25 (by with_reducible assumption)) | ((with_reducible apply wl_rowG); exact rfl; exact rfl; first | with_reducible assumption | exact RowK.now (by with_reducible assumption) | exact f4 (by with_reducible assumption)))
        (with_reducible refine wl_bs rfl ?_); intro X5 q3 hbn hlq3 hq3; replace hz := hz.trans (hbn.mono hz.size); clear hbn; simp only [put_lit, List.set_cons_zero, List.set_cons_succ]
        refine wl_push rfl _ _ rfl rfl rfl (HO7.out.old hz) (HA.out.old hz) hq3 (by have := HLN.out; omega) (by have := hz.size; omega) ?_
        intro A9 l9 c9 w9 hown hk9 hbl
        have HLT := Lib.hid ((HO7.out.old hz).lt)
        have hzs := hz.size
        have HF9 : Hid (Fr r r w w9) := Lib.hid ⟨fun b hb h1 h2 => by
          have hb7 : b < w7.heap.size := by omega
          rw [hk9 b (by omega) (fun e => by have := (HLT.out b e).1; omega), hz.block b hb7, HF7.out.keep b hb h1 h2], fun B' w0 h1 h2 h3 h4 => hbl B' w0 (fun b e => by have := (HLT.out b e).1; omega) (by omega) ((HF7.out.bel B' w0 h1 h2 h3 h4).trans (hz.mono (by omega)))⟩
        have HS9 : Hid (Rs w9 r s1 g1) := Lib.hid (by
          have := HS7.out.old hz
          unfold Rs at this ⊢
          rw [hk9 r (by omega) (fun e => by have := (HLT.out r e).1; omega)]; exact this)
        have HO9 := Lib.hid hown
        clear hown hk9 hbl HLT hq3 hq
        (with_reducible refine wl_k ?_ ?_); exact rfl; intro K hK; go_simp; refine hK _ ?_; clear hK K
        clear hz HO7 HA HF7 HS7
        cases hcm : takeL [44, 32] s1 with
        | some s2 =>
          have hcl := take_len hcm
          have HCM := Lib.hid (take_some r ⟨#[44, 32]⟩ s1 s2 g1 w9 HS9.out hcm)
          have HL3 : Hid ((if g1 then some (acc ++ [t], s2, true) else rdList (rdTyp left) e.data.toList n (acc ++ [t]) s2) = some (ts, l1, f)) := Lib.hid (by have := HLL.out; rw [hcm] at this; exact this)
          clear hcm HLL
          go_upto_region 7 with (fail)
          apply wp_region_lit
          (with_reducible refine wl_k ?_ ?_); exact rfl; intro K hK; go_simp; refine hK _ ?_; clear hK K
          (with_reducible refine wl_ck ?_ ?_); exact rfl; intro K hK; go_simp; refine ⟨_, _, ⟨rfl, rfl⟩, hK _ _ ⟨_, HCM.out, ?_⟩⟩; clear hK K; rintro e w10 ⟨rfl, hs10, hf10⟩; refine ⟨_, rfl, ?_⟩; simp only [put_lit, List.set_cons_zero, List.set_cons_succ]
          have HS10 := Lib.hid hs10
          have HF10 := Lib.hid (HF9.out.trans hf10)
          have HO10 := Lib.hid (HO9.out.fr hrw hf10)
          clear hs10 hf10
          (with_reducible refine wl_k ?_ ?_); exact rfl; intro K hK; go_simp; refine hK _ ?_; clear hK K
          clear HCM HS9 HF9 HO9
          have HM10 := Lib.hid HS10.out.meas
          go_wp2_with fail
          go_roundw
          case rel => exact ⟨acc ++ [t], s2, n, g1, _, _, _, rfl, HO10, HS10, Lib.hid (fun h => by have := HL3.out; rw [h] at this; exact this), Lib.hid (fun h => by have := HL3.out; rw [h] at this; exact Option.some.inj this), Lib.hid (by have := HLN.out; simp at hcl ⊢; omega), HF10⟩
          case measure =>
            rw [HMS.out, HM10.out]
            simp at hcl ⊢
            split <;> omega
        | none =>
          have HCM := Lib.hid (take_none r ⟨#[44, 32]⟩ s1 g1 w9 HS9.out hcm)
          have hL3 := HLL.out
          rw [hcm] at hL3
          clear hcm HLL
          cases hce : takeL e.data.toList s1 with
          | some s3 =>
            have HW := Lib.hid (want_some r e s1 s3 g1 w9 HS9.out hce)
            rw [hce] at hL3
            simp only [Option.some.injEq, Prod.mk.injEq] at hL3
            obtain ⟨rfl, rfl, rfl⟩ := hL3
            clear hce
            go_upto_region 7 with (fail)
            apply wp_region_lit
            (with_reducible refine wl_k ?_ ?_); exact rfl; intro K hK; go_simp; refine hK _ ?_; clear hK K
            (with_reducible refine wl_ck ?_ ?_); exact rfl; intro K hK; go_simp; refine ⟨_, _, ⟨rfl, rfl⟩, hK _ _ ⟨_, HCM.out, ?_⟩⟩; clear hK K; rintro e w10 ⟨rfl, rfl⟩; refine ⟨_, rfl, ?_⟩; simp only [put_lit, List.set_cons_zero, List.set_cons_succ]
            (with_reducible refine wl_k ?_ ?_); exact rfl; intro K hK; go_simp; refine hK _ ?_; clear hK K
            clear HCM HS9
            go_upto_region 8 with (fail)
            apply wp_region_lit
            (with_reducible refine wl_k ?_ ?_); exact rfl; intro K hK; go_simp; refine hK _ ?_; clear hK K
            (with_reducible refine wl_k ?_ ?_); exact rfl; intro K hK; go_simp; refine hK _ ?_; clear hK K
            (with_reducible refine wl_ck ?_ ?_); exact rfl; intro K hK; go_simp; refine ⟨_, _, ⟨rfl, rfl⟩, hK _ _ ⟨_, HW.out, ?_⟩⟩; clear hK K; rintro e w11 ⟨rfl, hs11, hf11⟩; refine ⟨_, rfl, ?_⟩; simp only [put_lit, List.set_cons_zero, List.set_cons_succ]
            have HS11 := Lib.hid hs11
            have HF11 := Lib.hid (HF9.out.trans hf11)
            have HO11 := Lib.hid (HO9.out.fr hrw hf11)
            clear hs11 hf11
            clear HW HF9 HO9
            go_wp2_with fail
            go_ret
            exact ⟨_, _, _, rfl, HO11.out, HS11.out, HF11.out⟩
          | none =>
            have HW := Lib.hid (want_none r e s1 g1 w9 HS9.out hce)
            rw [hce] at hL3
            simp only [Option.some.injEq, Prod.mk.injEq] at hL3
            obtain ⟨rfl, rfl, rfl⟩ := hL3
            clear hce
            go_upto_region 7 with (fail)
            apply wp_region_lit
            (with_reducible refine wl_k ?_ ?_); exact rfl; intro K hK; go_simp; refine hK _ ?_; clear hK K
            (with_reducible refine wl_ck ?_ ?_); exact rfl; intro K hK; go_simp; refine ⟨_, _, ⟨rfl, rfl⟩, hK _ _ ⟨_, HCM.out, ?_⟩⟩; clear hK K; rintro e w10 ⟨rfl, rfl⟩; refine ⟨_, rfl, ?_⟩; simp only [put_lit, List.set_cons_zero, List.set_cons_succ]
            (with_reducible refine wl_k ?_ ?_); exact rfl; intro K hK; go_simp; refine hK _ ?_; clear hK K
            clear HCM HS9
            go_upto_region 8 with (fail)
            apply wp_region_lit
            (with_reducible refine wl_k ?_ ?_); exact rfl; intro K hK; go_simp; refine hK _ ?_; clear hK K
            (with_reducible refine wl_k ?_ ?_); exact rfl; intro K hK; go_simp; refine hK _ ?_; clear hK K
            (with_reducible refine wl_ck ?_ ?_); exact rfl; intro K hK; go_simp; refine ⟨_, _, ⟨rfl, rfl⟩, hK _ _ ⟨_, HW.out, ?_⟩⟩; clear hK K; rintro e w11 ⟨rfl, hs11, hf11⟩; refine ⟨_, rfl, ?_⟩; simp only [put_lit, List.set_cons_zero, List.set_cons_succ]
            have HS11 := Lib.hid hs11
            have HF11 := Lib.hid (HF9.out.trans hf11)
            have HO11 := Lib.hid (HO9.out.fr hrw hf11)
            clear hs11 hf11
            clear HW HF9 HO9
            go_wp2_with fail
            go_ret
            exact ⟨_, _, _, rfl, HO11.out, HS11.out, HF11.out⟩
end Go.Proofs.YtokmaehefenpmaaDoor
