/- The text of any open tree: Format. -/
import Derived.Test.YtokmaehefenpmaaDoorX3
import Derived.Test.YtokmaehefenpmaaDoorT2
import Derived.Test.YtokmaehefenpmaaDoorV10
namespace Go.Proofs.YtokmaehefenpmaaDoor
open Go.RowKit Go.Proofs.YtokmaehefenpmaaDoor.Nm
set_option linter.unusedSimpArgs false
theorem alls_mem {f : Ty → Bool} : ∀ {l : List Ty}, alls f l = true → ∀ u, u ∈ l → u.all f = true
  | [], _, u, hu => by cases hu
  | t :: l, h, u, hu => by
    simp only [alls, Bool.and_eq_true] at h
    rcases List.mem_cons.1 hu with rfl | hu
    · exact h.1
    · exact alls_mem h.2 u hu
theorem empty_size {s : ByteArray} (h : s.toList.isEmpty = true) : s.size = 0 := by
  rw [ByteArray.toList_eq, List.isEmpty_iff] at h
  have : s.data.toList.length = 0 := by rw [h]; rfl
  exact this
theorem tname_size {s : ByteArray} (h : tnameB s = true) : s.size ≤ 24 := by
  unfold tnameB at h
  rw [Bool.and_eq_true] at h
  exact of_decide_eq_true h.1
/-- The name of a node of an open tree is short. -/
theorem node_size {v : Bool} {k : Int} {s : ByteArray} {n : Int} {l : List Ty} (h : nodeK v k s n l = true) : s.size ≤ 24 := by
  unfold nodeK at h
  split at h
  · simp only [Bool.and_eq_true] at h; rw [empty_size h.2]; omega
  · split at h
    · simp only [Bool.and_eq_true] at h; rw [empty_size h.2]; omega
    · split at h
      · simp only [Bool.and_eq_true] at h; exact tname_size h.2.2
      · split at h
        · simp only [Bool.and_eq_true] at h; exact tname_size h.2
        · split at h
          · split at h
            · simp only [Bool.and_eq_true] at h; exact tname_size h.2.2
            · cases h
          · split at h
            · simp only [Bool.and_eq_true] at h; rw [empty_size h.2.2]; omega
            · split at h
              · simp only [Bool.and_eq_true] at h; rw [empty_size h.2.2.1]; omega
              · cases h
theorem dec_small {n : Nat} (h : n < 100) : (Lib.decDigits n).length ≤ 2 := by
  rw [Lib.decDigits]
  split
  · simp
  · rw [Lib.decDigits, dif_pos (by omega)]
    simp
theorem dec_dl {n : Nat} (h : n < 100) : (⟨(Lib.decDigits n).toArray⟩ : ByteArray).size ≤ 100 := by
  have := dec_small h
  simp [ByteArray.size]; omega
theorem txt_tail (ts : List Ty) : (if ts.isEmpty then [] else 60 :: (txtSep true ts ++ [62])) = (if ts = [] then [] else [60] ++ sepText txtT true ts ++ [62] : List UInt8) := by
  cases ts with
  | nil => rfl
  | cons t l => simp [sep_txt]
theorem kind_cases {v : Bool} {k : Int} {s : ByteArray} {n : Int} {l : List Ty} (h : nodeK v k s n l = true) (h8 : k ≠ 8) (h10 : k ≠ 10) : k = 1 ∨ k = 2 ∨ k = 3 ∨ k = 4 ∨ k = 5 ∨ k = 11 ∨ k = 6 ∨ k = 7 ∨ k = 9 ∨ k = 12 := by
  apply Classical.byContradiction
  intro hn
  simp only [not_or] at hn
  unfold nodeK at h
  simp [hn, h8, h10] at h
theorem typ_open : ∀ t : Ty, t.all (nodeB true) = true → TypC txtT t := Ty.ind fun k s n ts ih ha => by
  simp only [Ty.all, Bool.and_eq_true] at ha
  have hch : ∀ u, u ∈ ts → TypC txtT u := fun u hu => ih u hu (alls_mem ha.2 u hu)
  have hnd := ha.1
  simp only [nodeB, Bool.and_eq_true, Bool.or_eq_true, decide_eq_true_eq] at hnd
  obtain ⟨hn, hK⟩ := hnd
  have hsz : s.size ≤ 1000000000 := by have := node_size hK; omega
  by_cases h8 : k = 8
  · subst h8
    obtain rfl : n = 0 := hn.resolve_left (by decide)
    match ts, hK, hch with
    | [u], _, hch => exact typ_assoc s u hsz (hch u (by simp))
    | [], hK, _ => simp [nodeK] at hK
    | _ :: _ :: _, hK, _ => simp [nodeK] at hK
  by_cases h10 : k = 10
  · subst h10
    obtain rfl : n = 0 := hn.resolve_left (by decide)
    rcases List.eq_nil_or_concat ts with rfl | ⟨us, v, rfl⟩
    · simp [nodeK] at hK
    · rw [List.concat_eq_append] at hch ⊢
      exact typ_fn s us v hsz ⟨fun u hu => hch u (by simp [hu]), hch v (by simp)⟩
  obtain ⟨m, rfl, hm⟩ : ∃ m : Nat, n = (m : Int) ∧ m < 100 := by
    rcases hn with rfl | rfl
    · simp [nodeK] at hK
      exact ⟨n.toNat, by omega, by omega⟩
    · exact ⟨0, rfl, by omega⟩
  have hw : ∀ (i : Nat), wordT k s (m : Int) = (wordOf s ⟨(Lib.decDigits m).toArray⟩ i).data.toList → txtT (.node k s (m : Int) ts) = (wordOf s ⟨(Lib.decDigits m).toArray⟩ i).data.toList ++ if ts = [] then [] else [60] ++ sepText txtT true ts ++ [62] := fun i hi => by
    simp only [txtT]
    rw [if_neg h8, if_neg h10, txt_tail, hi]
  rcases kind_cases hK h8 h10 with rfl | rfl | rfl | rfl | rfl | rfl | rfl | rfl | rfl | rfl
  · exact typ_simple txtT 1 s m ts 1 (by decide) rfl hm (dec_dl hm) hsz hch (hw 1 (by simp [wordT, wordOf, valOf, cInt]))
  · exact typ_simple txtT 2 s m ts 2 (by decide) rfl hm (dec_dl hm) hsz hch (hw 2 (by simp [wordT, wordOf, valOf, cBool]))
  · exact typ_simple txtT 3 s m ts 3 (by decide) rfl hm (dec_dl hm) hsz hch (hw 3 (by simp [wordT, wordOf, valOf, cText]))
  · exact typ_simple txtT 4 s m ts 4 (by decide) rfl hm (dec_dl hm) hsz hch (hw 4 (by simp [wordT, wordOf, valOf, cUnit]))
  · exact typ_simple txtT 5 s m ts 5 (by decide) rfl hm (dec_dl hm) hsz hch (hw 5 (by simp [wordT, wordOf, valOf, cArr]))
  · exact typ_simple txtT 11 s m ts 6 (by decide) rfl hm (dec_dl hm) hsz hch (hw 6 (by simp [wordT, wordOf, valOf, cWeak]))
  · exact typ_simple txtT 6 s m ts 9 (by decide) rfl hm (dec_dl hm) hsz hch (hw 9 (by simp [wordT, wordOf, valOf]))
  · exact typ_simple txtT 7 s m ts 13 (by decide) rfl hm (dec_dl hm) hsz hch (hw 13 (by simp [wordT, wordOf, valOf]))
  · exact typ_simple txtT 9 s m ts 17 (by decide) rfl hm (dec_dl hm) hsz hch (hw 17 (by simp [wordT, wordOf, valOf]))
  · exact typ_simple txtT 12 s m ts 22 (by decide) rfl hm (dec_dl hm) hsz hch (hw 22 (by simp [wordT, wordOf, valOf]))
theorem sep_lenB : ∀ (l : List Ty) (f : Bool), (∀ t, t ∈ l → (txtT t).length + 2 ≤ 40 * t.nodes) → (txtSep f l).length ≤ 40 * nodesL l
  | [], f, _ => by simp [txtSep]
  | t :: l, f, h => by
    have h1 := h t (by simp)
    have h2 := sep_lenB l false fun u hu => h u (by simp [hu])
    simp only [txtSep, nodesL, List.length_append]
    have h3 : (if f = true then [] else [44, 32] : List UInt8).length ≤ 2 := by cases f <;> simp
    omega
theorem word_lenB {k : Int} {s : ByteArray} {n : Int} {l : List Ty} (h : nodeK true k s n l = true) (h8 : k ≠ 8) (h10 : k ≠ 10) : (wordT k s n).length ≤ 28 := by
  have hs := node_size h
  have hl : s.data.toList.length = s.size := rfl
  rcases kind_cases h h8 h10 with rfl | rfl | rfl | rfl | rfl | rfl | rfl | rfl | rfl | rfl
  · simp [wordT]
  · simp [wordT]
  · simp [wordT]
  · simp [wordT]
  · simp [wordT]
  · simp [wordT]
  · simp only [wordT]; simp; omega
  · simp only [wordT]; simp; omega
  · simp only [wordT]; simp; omega
  · simp [nodeK] at h
    have := dec_small (show n.toNat < 100 by omega)
    simp [wordT]; omega
theorem txt_lenB : ∀ t : Ty, t.all (nodeB true) = true → (txtT t).length + 2 ≤ 40 * t.nodes := Ty.ind fun k s n ts ih ha => by
  simp only [Ty.all, Bool.and_eq_true] at ha
  have hch : ∀ u, u ∈ ts → (txtT u).length + 2 ≤ 40 * u.nodes := fun u hu => ih u hu (alls_mem ha.2 u hu)
  have hnd := ha.1
  simp only [nodeB, Bool.and_eq_true] at hnd
  have hsz := node_size hnd.2
  have hl : s.data.toList.length = s.size := rfl
  have hsep := fun f => sep_lenB ts f hch
  simp only [txtT, Ty.nodes]
  split
  · simp only [List.length_append, List.length_cons]
    have := hsep true; omega
  · split
    · rename_i h8 h10
      rcases List.eq_nil_or_concat ts with rfl | ⟨us, v, rfl⟩
      · simp [txtFn, nodesL]
      · rw [List.concat_eq_append] at hch ⊢
        have h1 := sep_lenB us true fun u hu => hch u (by simp [hu])
        have h2 := hch v (by simp)
        have h3 : nodesL (us ++ [v]) = nodesL us + v.nodes := by
          clear h1 hch ih ha hsep hnd
          induction us with
          | nil => simp [nodesL]
          | cons a l ih => simp only [List.cons_append, nodesL, ih]; omega
        rw [txtFn_eq, h3]
        simp only [List.length_cons, List.length_append, List.length_nil]
        omega
    · rename_i h8 h10
      have hw := word_lenB hnd.2 h8 h10
      rw [List.length_append]
      have := hsep true
      split
      · simp; omega
      · simp only [List.length_cons, List.length_append, List.length_nil]; omega
theorem Open_full (t : Ty) (w : World) (D : Nat → Prop) (row : Array Value) (h : TyAt w D t row) : Calls Tryd.prog 59 #[.agg row] w fun e w' => e = .returned (.bool (validB true t)) ∧ Below w.heap.size w w' := by
  have := Open_any (nodeB true) (fun _ => True) (fun u _ => shaped_any true u) (fun _ _ _ _ _ _ _ => trivial) t trivial w D row h
  rwa [openB_law] at this
/-- What Format hands back. -/
def fmtV (t : Ty) : Value := if validB true t = true then .tuple #[.string ⟨(txtT t).toArray⟩, .int .i64 0] else .tuple #[.string ⟨#[]⟩, .int .i64 30]
theorem valid_all {v : Bool} {t : Ty} (h : validB v t = true) : t.nodes ≤ 40 ∧ t.all (nodeB v) = true := by
  unfold validB at h
  rw [Bool.and_eq_true] at h
  exact ⟨of_decide_eq_true h.1, h.2⟩
set_option maxHeartbeats 2000000 in
set_option maxRecDepth 100000 in
theorem Format_any (t : Ty) (w : World) (D : Nat → Prop) (row : Array Value) (h : TyAt w D t row) : Calls Tryd.prog 33 #[.agg row] w fun e w' => e = .returned (fmtV t) ∧ Below w.heap.size w w' := by
  unfold fmtV
  by_cases hv : validB true t = true
  · rw [if_pos hv]
    obtain ⟨h1, h2⟩ := valid_all hv
    refine Format_ok txtT t w D row h (fun w' D' h' => ?_) (typ_open t h2) (by have := txt_lenB t h2; omega)
    have := Open_full t w' D' row h'
    rwa [hv] at this
  · rw [if_neg hv]
    have HC := Lib.hid fun (w' : World) (h' : TyAt w' D t row) => Open_full t w' D row h'
    rw [show validB true t = false from by simpa using hv] at HC
    obtain ⟨k, s, n, A, l, c, ts, he, rfl, -⟩ := h.parts
    have HT := Lib.hid h
    clear h he hv
    have hb := Below.refl w.heap.size w
    go_enter Tryd.func33, Tryd.ntmps33
    go_upto_region 0 with (fail)
    apply wp_region_lit
    (with_reducible refine wl_box rfl ?_); intro W p hbn hlp hp; replace hb := hb.trans (hbn.mono hb.size); clear hbn; simp only [put_lit, List.set_cons_zero, List.set_cons_succ]
    (with_reducible refine wl_k ?_ ?_); exact rfl; intro K hK; go_simp; refine hK _ ?_; clear hK K
    (with_reducible refine wl_k ?_ ?_); exact rfl; intro K hK; go_simp; refine hK _ ?_; clear hK K
    have HC2 := Lib.hid (HC.out W (HT.out.old hb))
    go_upto_region 1 with (fail)
    apply wp_region_lit
    (first | ((with_reducible apply wl_oneG); exact rfl; exact rfl; first | exact f0 (by with_reducible assumption) | exact f1 (by with_reducible assumption) | exact f2 (by with_reducible assumption) | exact f3 (by with_reducible assumption) | with_reducible assumption | exact g22 (by with_reducible assumption) | exact g25 (by with_reducible assumption)) | ((with_reducible apply wl_rowG); exact rfl; exact rfl; first | with_reducible assumption | exact RowK.now (by with_reducible assumption) | exact f4 (by with_reducible assumption)))
    (with_reducible refine wl_ck ?_ ?_); exact rfl; intro K hK; go_simp; refine ⟨_, _, ⟨rfl, rfl⟩, hK _ _ ⟨_, HC2.out, ?_⟩⟩; clear hK K; rintro e w6 ⟨rfl, hb6⟩; refine ⟨_, rfl, ?_⟩; simp only [put_lit, List.set_cons_zero, List.set_cons_succ]
    (with_reducible refine wl_k ?_ ?_); exact rfl; intro K hK; go_simp; refine hK _ ?_; clear hK K
    replace hp := below_look hb6 hp; replace hb := hb.trans (hb6.mono hb.size); clear hb6
    clear HC HC2 hp
    go_wp2_with fail
    go_ret2
    exact ⟨rfl, hb⟩
end Go.Proofs.YtokmaehefenpmaaDoor
