/- A key's value, an element, a length, by the program. -/
import Derived.Outline
import Derived.Test.YtbhdgeoljlhmcaaQB11
namespace Go.Proofs.Ytbhdgeoljlhmcaa
open Go.RowKit Go.Proofs.Ytbhdgeoljlhmcaa.Nm Go.Proofs.Ytbhdgeoljlhmcaa.St
set_option linter.unusedSimpArgs false
/-- the value of a key, or the error -/
def getA (b : Buf) (k : ByteArray) : Int × Int := if b.kd = 2 then (match findT (HH b.seed) b.t k with | none => (0, 250) | some i => (ev (pl b.t i), 0)) else (0, 141)
/-- an element, or the error -/
def atA (b : Buf) (i : Int) : ByteArray × Int := if b.kd = 1 then (if i < 0 ∨ (b.l.length : Int) ≤ i then (⟨#[]⟩, 241) else (b.l.getD i.toNat ⟨#[]⟩, 0)) else (⟨#[]⟩, 141)
def lenA (b : Buf) : Int := (b.l.length : Int) + (cn b.t : Int)
set_option maxHeartbeats 2000000 in
set_option maxRecDepth 100000 in
theorem Get_no (s : Nat) (n : Int) (hn : isNm n = false) (k : ByteArray) (w : World) : Calls Try.prog 37 #[.pointer (some ⟨s, 0, none⟩), .int .i64 n, .string k] w fun e w' => e = .returned (.tuple #[.int .i64 0, .int .i64 4]) ∧ Below w.heap.size w w' := by
  have HN := Lib.hid hn
  clear hn
  go_enter Try.func37, Try.ntmps37
  go_upto_region 1 with (fail)
  apply wp_region_lit
  iterate 2 (refine wl_k rfl (fun K hK => ?_); go_simp; refine hK _ ?_; clear hK K)
  refine wl_ck rfl (fun K hK => ?_); go_simp; refine ⟨_, _, ⟨rfl, rfl⟩, hK _ _ ⟨_, of_no s n HN.out _, ?_⟩⟩; clear hK K; rintro e w1 ⟨rfl, hb1⟩; refine ⟨_, rfl, ?_⟩; simp only [Zq]
  go_wp2_with fail
  go_ret2
  exact ⟨rfl, hb1⟩
set_option maxHeartbeats 2000000 in
set_option maxRecDepth 100000 in
theorem Get_yes (s : Nat) (A : Sto) (rs : List Row) (hA : Good A) (f : Nat) (hf : (f : Int) < 8) (k : ByteArray) (hk : k.size ≤ 1000000000) (w : World) (h : StoreAt w s A rs) :
    Calls Try.prog 37 #[.pointer (some ⟨s, 0, none⟩), .int .i64 (f : Int), .string k] w fun e w' => e = .returned (.tuple #[.int .i64 (getA (A.buf (f : Int)) k).1, .int .i64 (getA (A.buf (f : Int)) k).2]) ∧ Below w.heap.size w w' := by
  have HS := Lib.hid h
  have HA := Lib.hid hA
  clear h hA
  obtain ⟨G, hGG⟩ : ∃ G, G = getA (A.buf (f : Int)) k := ⟨_, rfl⟩
  have HG := Lib.hid hGG
  rw [← hGG]
  clear hGG
  go_enter Try.func37, Try.ntmps37
  go_upto_region 1 with (fail)
  apply wp_region_lit
  iterate 2 (refine wl_k rfl (fun K hK => ?_); go_simp; refine hK _ ?_; clear hK K)
  refine wl_ck rfl (fun K hK => ?_); go_simp; refine ⟨_, _, ⟨rfl, rfl⟩, hK _ _ ⟨_, of_yes s A rs HA.out f hf _ HS.out, ?_⟩⟩; clear hK K; rintro e w1 ⟨rfl, hb1⟩; refine ⟨_, rfl, ?_⟩; simp only [Zq]
  replace HS := Lib.hid (HS.out.below hb1)
  cases hid : A.id (f : Int) with
  | none =>
    have HB : Hid (A.buf (f : Int) = noBuf) := Lib.hid (buf_none hid)
    simp only [Option.map_none]
    rw [show bp none = .pointer none from rfl]
    clear hid
    go_wp2_with fail
    go_ret2
    refine ⟨?_, hb1⟩
    have h9 := HG.out
    rw [HB.out] at h9
    rw [h9]; rfl
  | some q =>
    obtain ⟨r, hr, hbk, hB, hG, hns⟩ := HS.out.row HA.out hid
    simp only [Option.map_some, gAt_eq hr]
    rw [show bp (some r.g) = .pointer (some ⟨r.g, 0, none⟩) from rfl]
    have hB0 := hB.1
    have g0 := (bc_cell hB0).1
    by_cases hkd : (A.buf (f : Int)).kd = 2
    · obtain ⟨hsd0, hsd1, hnl, hwf, hsh, ht4, ht264, hcn⟩ := hG.dict hkd
      have HW := Lib.hid hwf
      obtain ⟨g, lv, pv⟩ := r
      simp only at g0 ⊢
      obtain ⟨p, cap, rfl, _, hpl⟩ := own_pl hB.2.2.1 (by omega)
      have HFC := Lib.hid (find_any g p cap (A.buf (f : Int)).t _ (A.buf (f : Int)).seed _ lv k hk (by omega) (by omega) hwf.gap w1 hB.1 hpl)
      rw [hkd] at g0
      have HKD := Lib.hid hkd
      have HB := Lib.hid hB
      have HPL := Lib.hid hpl
      clear hwf hsh hnl hns hbk hG hid hkd hB0 hB hpl hr
      have hcases : (findT (HH (A.buf (f : Int)).seed) (A.buf (f : Int)).t k = none ∧ fnd (A.buf (f : Int)).seed (A.buf (f : Int)).t k = -1) ∨ ∃ i, findT (HH (A.buf (f : Int)).seed) (A.buf (f : Int)).t k = some i ∧ fnd (A.buf (f : Int)).seed (A.buf (f : Int)).t k = (i : Int) := by
        unfold fnd
        cases findT (HH (A.buf (f : Int)).seed) (A.buf (f : Int)).t k with
        | none => exact Or.inl ⟨rfl, rfl⟩
        | some i => exact Or.inr ⟨i, rfl, rfl⟩
      rcases hcases with ⟨hfi, hfn⟩ | ⟨i, hfi, hfn⟩
      · have HFI := Lib.hid hfi
        rw [hfn] at HFC
        clear hfi hfn
        go_upto_region 6 with (fail)
        apply wp_region_lit
        iterate 2 (refine wl_k rfl (fun K hK => ?_); go_simp; refine hK _ ?_; clear hK K)
        refine wl_ck rfl (fun K hK => ?_); go_simp; refine ⟨_, _, ⟨rfl, rfl⟩, hK _ _ ⟨_, HFC.out, ?_⟩⟩; clear hK K; rintro e w3 ⟨rfl, hb3⟩; refine ⟨_, rfl, ?_⟩; simp only [Zq]
        replace hb1 := hb1.trans (hb3.mono hb1.size)
        go_wp2_with fail
        go_ret2
        refine ⟨?_, hb1⟩
        have h9 := HG.out
        unfold getA at h9
        rw [if_pos HKD.out, HFI.out] at h9
        rw [h9]; rfl
      · have HFI := Lib.hid hfi
        rw [hfn] at HFC
        obtain ⟨hil, v0, hpv⟩ := find_of (HH (A.buf (f : Int)).seed) HW.out.gap hfi
        have HPV := Lib.hid hpv
        clear hfi hfn hpv
        go_upto_region 6 with (fail)
        apply wp_region_lit
        iterate 2 (refine wl_k rfl (fun K hK => ?_); go_simp; refine hK _ ?_; clear hK K)
        refine wl_ck rfl (fun K hK => ?_); go_simp; refine ⟨_, _, ⟨rfl, rfl⟩, hK _ _ ⟨_, HFC.out, ?_⟩⟩; clear hK K; rintro e w3 ⟨rfl, hb3⟩; refine ⟨_, rfl, ?_⟩; simp only [Zq]
        replace hb1 := hb1.trans (hb3.mono hb1.size)
        replace HB := Lib.hid (HB.out.same (w' := w3) (fun q hq _ => hb3.block q hq))
        replace HPL := Lib.hid (HPL.out.below hb3)
        have g4 := (bc_cell HB.out.1).2.2.2.2
        have hvc := (HPL.out.cell hil).2.2
        rw [HPV.out, show ev (some (k, v0)) = v0 from rfl] at hvc
        clear HFC hb3 g0
        refine wl_k rfl (fun K hK => ?_); go_simp; refine hK _ ?_; clear hK K
        go_upto_region 9 with (fail)
        apply wp_region_lit
        iterate 3 (refine wl_k rfl (fun K hK => ?_); go_simp; refine hK _ ?_; clear hK K)
        ((with_reducible apply wl_oneG); exact rfl; exact rfl; exact one85 g4)
        iterate 4 (refine wl_k rfl (fun K hK => ?_); go_simp; refine hK _ ?_; clear hK K)
        ((with_reducible apply wl_oneG); exact rfl; exact rfl; exact one3 hvc)
        iterate 2 (refine wl_k rfl (fun K hK => ?_); go_simp; refine hK _ ?_; clear hK K)
        go_wp2_with fail
        go_ret2
        refine ⟨?_, hb1⟩
        have h9 := HG.out
        unfold getA at h9
        rw [if_pos HKD.out, HFI.out] at h9
        simp only at h9
        rw [HPV.out] at h9
        rw [h9]
        rfl
    · have hd : ((A.buf (f : Int)).kd == 2) = false := by simpa using hkd
      clear hns hbk hG hid hB hr
      go_wp2_with fail
      go_ret2
      refine ⟨?_, hb1⟩
      have h9 := HG.out
      unfold getA at h9
      rw [if_neg hkd] at h9
      rw [h9]; rfl
theorem Len_no (s : Nat) (n : Int) (hn : isNm n = false) (w : World) : Calls Try.prog 41 #[.pointer (some ⟨s, 0, none⟩), .int .i64 n] w fun e w' => e = .returned (.tuple #[.int .i64 0, .int .i64 4]) ∧ Below w.heap.size w w' := by
  have HN := Lib.hid hn
  clear hn
  go_enter Try.func41, Try.ntmps41
  go_upto_region 1 with (fail)
  apply wp_region_lit
  iterate 2 (refine wl_k rfl (fun K hK => ?_); go_simp; refine hK _ ?_; clear hK K)
  refine wl_ck rfl (fun K hK => ?_); go_simp; refine ⟨_, _, ⟨rfl, rfl⟩, hK _ _ ⟨_, of_no s n HN.out _, ?_⟩⟩; clear hK K; rintro e w1 ⟨rfl, hb1⟩; refine ⟨_, rfl, ?_⟩; simp only [Zq]
  go_wp2_with fail
  go_ret2
  exact ⟨rfl, hb1⟩
set_option maxHeartbeats 2000000 in
set_option maxRecDepth 100000 in
theorem Len_yes (s : Nat) (A : Sto) (rs : List Row) (hA : Good A) (f : Nat) (hf : (f : Int) < 8) (w : World) (h : StoreAt w s A rs) :
    Calls Try.prog 41 #[.pointer (some ⟨s, 0, none⟩), .int .i64 (f : Int)] w fun e w' => e = .returned (.tuple #[.int .i64 (lenA (A.buf (f : Int))), .int .i64 0]) ∧ Below w.heap.size w w' := by
  have HS := Lib.hid h
  have HA := Lib.hid hA
  clear h hA
  obtain ⟨G, hGG⟩ : ∃ G, G = lenA (A.buf (f : Int)) := ⟨_, rfl⟩
  have HG := Lib.hid hGG
  rw [← hGG]
  clear hGG
  go_enter Try.func41, Try.ntmps41
  go_upto_region 1 with (fail)
  apply wp_region_lit
  iterate 2 (refine wl_k rfl (fun K hK => ?_); go_simp; refine hK _ ?_; clear hK K)
  refine wl_ck rfl (fun K hK => ?_); go_simp; refine ⟨_, _, ⟨rfl, rfl⟩, hK _ _ ⟨_, of_yes s A rs HA.out f hf _ HS.out, ?_⟩⟩; clear hK K; rintro e w1 ⟨rfl, hb1⟩; refine ⟨_, rfl, ?_⟩; simp only [Zq]
  replace HS := Lib.hid (HS.out.below hb1)
  cases hid : A.id (f : Int) with
  | none =>
    have HB : Hid (A.buf (f : Int) = noBuf) := Lib.hid (buf_none hid)
    simp only [Option.map_none]
    rw [show bp none = .pointer none from rfl]
    clear hid
    go_wp2_with fail
    go_ret2
    refine ⟨?_, hb1⟩
    have h9 := HG.out
    rw [HB.out] at h9
    rw [h9]; rfl
  | some q =>
    obtain ⟨r, hr, hbk, hB, hG, hns⟩ := HS.out.row HA.out hid
    simp only [Option.map_some, gAt_eq hr]
    rw [show bp (some r.g) = .pointer (some ⟨r.g, 0, none⟩) from rfl]
    obtain ⟨A1, cp1, e1, hl1⟩ := own_str hB.2.1 rfl
    have hB0 := hB.1
    rw [e1] at hB0
    have g1 := (bc_cell hB0).2.1
    have g3 := (bc_cell hB0).2.2.2.1
    have hz1 := hG.len
    have hz2 := cn_le (A.buf (f : Int)).t
    have hw9 : IntKind.i64.wrap (((A.buf (f : Int)).l.length : Int) + (cn (A.buf (f : Int)).t : Int)) = lenA (A.buf (f : Int)) := wrap_small _ (by omega) (by omega)
    have HW9 := Lib.hid hw9
    clear hns hbk hG hid hB hr e1 hB0 hl1 hw9
    go_upto_region 4 with (fail)
    refine wp_region_held_drew (S := Kept [] w1) mixed (Kept.drew [] w1) (fun hS => ?_)
    refine hk3 (i := 0) rfl (by kernel_rfl) Zh hS rfl (fun K hK => ?_); go_simp; refine hK _ ?_; clear hK K; try simp only [Zq]
    refine hk3 (i := 1) rfl (by kernel_rfl) Zh hS rfl (fun K hK => ?_); go_simp; refine hK _ ?_; clear hK K; try simp only [Zq]
    refine hk3 (i := 2) rfl (by kernel_rfl) Zh hS rfl (fun K hK => ?_); go_simp; refine hK _ ?_; clear hK K; try simp only [Zq]
    refine hv3 (i := 3) rfl (by kernel_rfl) Zg hS rfl (fun w' hw' => ex_one rfl (one29 (hw'.cell g1 (by simp <;> omega)))) ?_; try simp only [Zq]
    refine hk3 (i := 4) rfl (by kernel_rfl) Zh hS rfl (fun K hK => ?_); go_simp; refine hK _ ?_; clear hK K; try simp only [Zq]
    refine hk3 (i := 5) rfl (by kernel_rfl) Zh hS rfl (fun K hK => ?_); go_simp; refine hK _ ?_; clear hK K; try simp only [Zq]
    refine hk3 (i := 6) rfl (by kernel_rfl) Zh hS rfl (fun K hK => ?_); go_simp; refine hK _ ?_; clear hK K; try simp only [Zq]
    refine hk3 (i := 7) rfl (by kernel_rfl) Zh hS rfl (fun K hK => ?_); go_simp; refine hK _ ?_; clear hK K; try simp only [Zq]
    refine hv3 (i := 8) rfl (by kernel_rfl) Zg hS rfl (fun w' hw' => ex_one rfl (one3 (hw'.cell g3 (by simp <;> omega)))) ?_; try simp only [Zq]
    refine hk3 (i := 9) rfl (by kernel_rfl) Zh hS rfl (fun K hK => ?_); go_simp; refine hK _ ?_; clear hK K; try simp only [Zq]
    refine hk3 (i := 10) rfl (by kernel_rfl) Zh hS rfl (fun K hK => ?_); go_simp; refine hK _ ?_; clear hK K; try simp only [Zq]
    refine hk3 (i := 11) rfl (by kernel_rfl) Zh hS rfl (fun K hK => ?_); go_simp; refine hK _ ?_; clear hK K; try simp only [Zq]
    refine wpAnyH_done (by kernel_rfl) ?_ _
    replace hb1 := hb1.drew
    go_wp2_with fail
    go_ret2
    refine ⟨?_, hb1⟩
    rw [HG.out, ← HW9.out]
    rfl
set_option maxRecDepth 100000 in
theorem At_no (s : Nat) (n : Int) (hn : isNm n = false) (i : Int) (w : World) : Calls Try.prog 46 #[.pointer (some ⟨s, 0, none⟩), .int .i64 n, .int .i64 i] w fun e w' => e = .returned (.tuple #[.string ⟨#[]⟩, .int .i64 4]) ∧ Below w.heap.size w w' := by
  have HN := Lib.hid hn
  clear hn
  go_enter Try.func46, Try.ntmps46
  go_upto_region 1 with (fail)
  apply wp_region_lit
  iterate 2 (refine wl_k rfl (fun K hK => ?_); go_simp; refine hK _ ?_; clear hK K)
  refine wl_ck rfl (fun K hK => ?_); go_simp; refine ⟨_, _, ⟨rfl, rfl⟩, hK _ _ ⟨_, of_no s n HN.out _, ?_⟩⟩; clear hK K; rintro e w1 ⟨rfl, hb1⟩; refine ⟨_, rfl, ?_⟩; simp only [Zq]
  go_wp2_with fail
  go_ret2
  exact ⟨rfl, hb1⟩
set_option maxHeartbeats 2000000 in
set_option maxRecDepth 100000 in
theorem At_yes (s : Nat) (A : Sto) (rs : List Row) (hA : Good A) (f : Nat) (hf : (f : Int) < 8) (i : Int) (w : World) (h : StoreAt w s A rs) :
    Calls Try.prog 46 #[.pointer (some ⟨s, 0, none⟩), .int .i64 (f : Int), .int .i64 i] w fun e w' => e = .returned (.tuple #[.string (atA (A.buf (f : Int)) i).1, .int .i64 (atA (A.buf (f : Int)) i).2]) ∧ Below w.heap.size w w' := by
  have HS := Lib.hid h
  have HA := Lib.hid hA
  clear h hA
  obtain ⟨G, hGG⟩ : ∃ G, G = atA (A.buf (f : Int)) i := ⟨_, rfl⟩
  have HG := Lib.hid hGG
  rw [← hGG]
  clear hGG
  go_enter Try.func46, Try.ntmps46
  go_upto_region 1 with (fail)
  apply wp_region_lit
  iterate 2 (refine wl_k rfl (fun K hK => ?_); go_simp; refine hK _ ?_; clear hK K)
  refine wl_ck rfl (fun K hK => ?_); go_simp; refine ⟨_, _, ⟨rfl, rfl⟩, hK _ _ ⟨_, of_yes s A rs HA.out f hf _ HS.out, ?_⟩⟩; clear hK K; rintro e w1 ⟨rfl, hb1⟩; refine ⟨_, rfl, ?_⟩; simp only [Zq]
  replace HS := Lib.hid (HS.out.below hb1)
  cases hid : A.id (f : Int) with
  | none =>
    have HB : Hid (A.buf (f : Int) = noBuf) := Lib.hid (buf_none hid)
    simp only [Option.map_none]
    rw [show bp none = .pointer none from rfl]
    clear hid
    go_wp2_with fail
    go_ret2
    refine ⟨?_, hb1⟩
    have h9 := HG.out
    rw [HB.out] at h9
    rw [h9]; rfl
  | some q =>
    obtain ⟨r, hr, hbk, hB, hG, hns⟩ := HS.out.row HA.out hid
    simp only [Option.map_some, gAt_eq hr]
    rw [show bp (some r.g) = .pointer (some ⟨r.g, 0, none⟩) from rfl]
    obtain ⟨A1, cp1, e1, hl1⟩ := own_str hB.2.1 rfl
    have hB0 := hB.1
    rw [e1] at hB0
    have g0 := (bc_cell hB0).1
    have g1 := (bc_cell hB0).2.1
    have hz1 := hG.len
    have HL := Lib.hid hl1
    clear hns hbk hG hid hB hr e1 hB0 hl1
    by_cases hkd : (A.buf (f : Int)).kd = 1
    · have HKD := Lib.hid hkd
      rw [hkd] at g0
      clear hkd
      by_cases hi0 : i < 0
      · go_upto_region 6 with (fail)
        apply wp_region_lit
        iterate 3 (refine wl_k rfl (fun K hK => ?_); go_simp; refine hK _ ?_; clear hK K)
        (refine wl_skip (by kernel_rfl) ?_; simp only [Zq])
        (refine wl_skip (by kernel_rfl) ?_; simp only [Zq])
        (refine wl_skip (by kernel_rfl) ?_; simp only [Zq])
        (refine wl_skip (by kernel_rfl) ?_; simp only [Zq])
        (refine wl_skip (by kernel_rfl) ?_; simp only [Zq])
        (refine wl_skip (by kernel_rfl) ?_; simp only [Zq])
        (refine wl_skip (by kernel_rfl) ?_; simp only [Zq])
        refine wl_k rfl (fun K hK => ?_); go_simp; refine hK _ ?_; clear hK K
        go_wp2_with fail
        go_ret2
        refine ⟨?_, hb1⟩
        have h9 := HG.out
        unfold atA at h9
        rw [if_pos HKD.out, if_pos (Or.inl hi0)] at h9
        rw [h9]; rfl
      · by_cases hil : ((A.buf (f : Int)).l.length : Int) ≤ i
        · have hd : decide (i < 0) = false := by simpa using hi0
          have hd2 : decide (((A.buf (f : Int)).l.length : Int) ≤ i) = true := by simpa using hil
          go_upto_region 6 with (fail)
          apply wp_region_lit
          iterate 7 (refine wl_k rfl (fun K hK => ?_); go_simp; refine hK _ ?_; clear hK K)
          ((with_reducible apply wl_oneG); exact rfl; exact rfl; exact one29 g1)
          iterate 3 (refine wl_k rfl (fun K hK => ?_); go_simp; refine hK _ ?_; clear hK K)
          go_wp2_with fail
          go_ret2
          refine ⟨?_, hb1⟩
          have h9 := HG.out
          unfold atA at h9
          rw [if_pos HKD.out, if_pos (Or.inr hil)] at h9
          rw [h9]; rfl
        · have hd : decide (i < 0) = false := by simpa using hi0
          have hd2 : decide (((A.buf (f : Int)).l.length : Int) ≤ i) = false := by simpa using hil
          obtain ⟨j, rfl⟩ : ∃ j : Nat, i = (j : Int) := ⟨i.toNat, by omega⟩
          have hjl : j < (A.buf (f : Int)).l.length := by omega
          obtain ⟨ad, rfl, hca⟩ := HL.out.cell (List.getElem?_eq_getElem hjl)
          have HAT : Hid (G = ((A.buf (f : Int)).l[j], 0)) := Lib.hid (by
            rw [HG.out]; unfold atA
            rw [if_pos HKD.out, if_neg (by omega), Int.toNat_natCast, List.getD_eq_getElem?_getD, List.getElem?_eq_getElem hjl]; rfl)
          have hltI : (j : Int) < ((A.buf (f : Int)).l.length : Int) := by omega
          have hj0 : ¬ (j : Int) < 0 := by omega
          go_upto_region 6 with (fail)
          apply wp_region_lit
          iterate 7 (refine wl_k rfl (fun K hK => ?_); go_simp; refine hK _ ?_; clear hK K)
          ((with_reducible apply wl_oneG); exact rfl; exact rfl; exact one29 g1)
          iterate 3 (refine wl_k rfl (fun K hK => ?_); go_simp; refine hK _ ?_; clear hK K)
          go_upto_region 8 with (fail)
          apply wp_region_lit
          iterate 3 (refine wl_k rfl (fun K hK => ?_); go_simp; refine hK _ ?_; clear hK K)
          ((with_reducible apply wl_oneG); exact rfl; exact rfl; exact one29 g1)
          iterate 2 (refine wl_k rfl (fun K hK => ?_); go_simp; refine hK _ ?_; clear hK K)
          ((with_reducible apply wl_oneG); exact rfl; exact rfl; exact one9 hca)
          iterate 2 (refine wl_k rfl (fun K hK => ?_); go_simp; refine hK _ ?_; clear hK K)
          go_wp2_with fail
          go_ret2
          exact ⟨by rw [HAT.out]; rfl, hb1⟩
    · have hd : ((A.buf (f : Int)).kd == 1) = false := by simpa using hkd
      go_wp2_with fail
      go_ret2
      refine ⟨?_, hb1⟩
      have h9 := HG.out
      unfold atA at h9
      rw [if_neg hkd] at h9
      rw [h9]; rfl
end Go.Proofs.Ytbhdgeoljlhmcaa
