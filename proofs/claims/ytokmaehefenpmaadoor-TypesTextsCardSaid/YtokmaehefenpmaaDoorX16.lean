/- The reader reads back what is written, plainly. -/
import Derived.Test.YtokmaehefenpmaaDoorX4
import Derived.Test.YtokmaehefenpmaaDoorX8
import Derived.Test.YtokmaehefenpmaaDoorX10
namespace Go.Proofs.YtokmaehefenpmaaDoor
/-- What may stand behind a type: the end, a comma, a closing sign. -/
def Stop (rest : List UInt8) : Prop := ∀ c, rest.head? = some c → c = 44 ∨ c = 62 ∨ c = 41
def StopD (rest : List UInt8) : Prop := ∀ c, rest.head? = some c → c = 44 ∨ c = 62 ∨ c = 41 ∨ c = 46
theorem Stop.d {r : List UInt8} (h : Stop r) : StopD r := fun c hc => by rcases h c hc with h | h | h <;> simp [h]
theorem take_pre (w s : List UInt8) : takeL w (w ++ s) = some s := by
  unfold takeL
  rw [if_pos (by simp)]
  simp
theorem take_ne {a b : UInt8} {w s : List UInt8} (h : a ≠ b) : takeL (a :: w) (b :: s) = none := by
  unfold takeL
  rw [if_neg (by simp [h])]
theorem take_nil {a : UInt8} {w : List UInt8} : takeL (a :: w) [] = none := by
  unfold takeL
  rw [if_neg (by simp)]
/-- A word ends where what follows is no part of one. -/
theorem word_stop : ∀ {w s : List UInt8}, (∀ c, c ∈ w → isW c = true) → (∀ c, s.head? = some c → isW c = false) → (w ++ s).takeWhile isW = w ∧ (w ++ s).dropWhile isW = s
  | [], [], _, _ => by simp
  | [], b :: s, _, h => by
    have := h b (by simp)
    simp [this]
  | a :: w, s, hw, h => by
    obtain ⟨h1, h2⟩ := word_stop (w := w) (s := s) (fun c hc => hw c (by simp [hc])) h
    have ha := hw a (by simp)
    simp [ha, h1, h2]
theorem StopD.w {r : List UInt8} (h : StopD r) : ∀ c, r.head? = some c → isW c = false := fun c hc => by
  rcases h c hc with rfl | rfl | rfl | rfl <;> decide
theorem tname_word {s : ByteArray} (h : tnameB s = true) : (∀ c, c ∈ s.data.toList → isW c = true) ∧ ∃ a l, s.data.toList = a :: l ∧ 65 ≤ a.toNat ∧ a.toNat ≤ 90 := by
  unfold tnameB at h
  rw [Bool.and_eq_true] at h
  have h2 := h.2
  cases hl : s.data.toList with
  | nil => rw [hl] at h2; cases h2
  | cons a l =>
    rw [hl] at h2
    simp only [Bool.and_eq_true] at h2
    refine ⟨fun c hc => ?_, a, l, rfl, ?_⟩
    · rw [isW_okc]; exact List.all_eq_true.1 h2.2 c hc
    · have := of_decide_eq_true h2.1
      omega
theorem str_back (s : ByteArray) : strOf s.data.toList = s := by cases s; rfl
theorem dots_stop {n : Nat} {t : Ty} {r : List UInt8} (h : Stop r) : dots n t r = (t, r) := by
  cases n with
  | zero => rfl
  | succ n =>
    have : takeL [46] r = none := by
      cases r with
      | nil => exact take_nil
      | cons c r =>
        refine take_ne fun e => ?_
        subst e
        rcases h 46 (by simp) with h | h | h <;> cases h
    simp only [dots, this]
theorem dots_step {n : Nat} {u : Ty} {s : ByteArray} {r : List UInt8} (hs : tnameB s = true) (hr : StopD r) : dots (n + 1) u (46 :: (s.data.toList ++ r)) = dots n (.node 8 s 0 [u]) r := by
  have h1 := take_pre [46] (s.data.toList ++ r)
  have h2 := word_stop (tname_word hs).1 hr.w
  simp only [List.cons_append, List.nil_append] at h1
  simp only [dots, h1, h2.1, h2.2, str_back]

theorem digit_w {n : Nat} (h : n < 100) : ∀ c, c ∈ Lib.decDigits n → isW c = true := by
  have key : ∀ d : Nat, d < 10 → isW (UInt8.ofNat (48 + d)) = true := by decide
  by_cases h1 : n < 10
  · rw [Lib.decDigits_one h1]
    intro c hc
    simp only [List.mem_singleton] at hc
    subst hc; exact key n h1
  · rw [Lib.decDigits_two h1 h]
    intro c hc
    simp only [List.mem_cons, List.not_mem_nil, or_false] at hc
    rcases hc with rfl | rfl
    · exact key _ (by omega)
    · exact key _ (by omega)
def backN (n : Nat) : Bool := match Lib.atoiAll (if n < 10 then [UInt8.ofNat (48 + n)] else [UInt8.ofNat (48 + n / 10), UInt8.ofNat (48 + n % 10)]) with | .ok v => v == (n : Int) | _ => false
theorem backN_all : ∀ n : Nat, n < 40 → backN n = true := by decide
theorem atoi_back {n : Nat} (h : n < 40) : Lib.atoiAll (Lib.decDigits n) = .ok (n : Int) := by
  have hb := backN_all n h
  have he : Lib.decDigits n = if n < 10 then [UInt8.ofNat (48 + n)] else [UInt8.ofNat (48 + n / 10), UInt8.ofNat (48 + n % 10)] := by
    split
    · rename_i g; exact Lib.decDigits_one g
    · rename_i g; exact Lib.decDigits_two g (by omega)
  unfold backN at hb
  rw [← he] at hb
  split at hb
  · rename_i v hv
    rw [hv]
    simp only [beq_iff_eq] at hb
    rw [hb]
  · cases hb
/-- How a text begins. -/
def Begins (t : Ty) : Prop := ∃ a l, txtT t = a :: l ∧ a ≠ 62 ∧ a ≠ 41 ∧ (t.kind ≠ 9 → t.kind ≠ 10 → a ≠ 40 ∧ a ≠ 97)
def BackC (t : Ty) : Prop := ∀ left rest, t.nodes ≤ left → Stop rest → rdTyp left (txtT t ++ rest) = some (t, rest, false)
def BackR (t : Ty) : Prop := ∀ left rest, t.nodes ≤ left + 1 → StopD rest → ∃ b s, rdAtom (rdTyp left) (txtT t ++ rest) = some (b, s, false) ∧ rest.length ≤ s.length ∧ ∀ n, s.length < n → ∃ n', rest.length < n' ∧ dots n b s = dots n' t rest
theorem stop_end {e rest : List UInt8} (he : e = [62] ∨ e = [41, 32, 45, 62, 32]) : Stop (e ++ rest) := fun c hc => by
  rcases he with rfl | rfl <;> simp at hc <;> simp [← hc]
theorem take_comma {e rest : List UInt8} (he : e = [62] ∨ e = [41, 32, 45, 62, 32]) : takeL [44, 32] (e ++ rest) = none := by
  rcases he with rfl | rfl <;> exact take_ne (by decide)
theorem rdList_back {left : Nat} {e : List UInt8} (he : e = [62] ∨ e = [41, 32, 45, 62, 32]) : ∀ (ts : List Ty) (n : Nat) (acc : List Ty) (rest : List UInt8), ts ≠ [] → ts.length < n → (∀ t, t ∈ ts → BackC t ∧ t.nodes ≤ left) → rdList (rdTyp left) e n acc (txtSep true ts ++ (e ++ rest)) = some (acc ++ ts, rest, false)
  | [], _, _, _, h, _, _ => absurd rfl h
  | _ :: _, 0, _, _, _, h, _ => by omega
  | [t], n + 1, acc, rest, _, _, hC => by
    have h1 := (hC t (by simp)).1 left (e ++ rest) (hC t (by simp)).2 (stop_end he)
    simp only [txtSep, if_true, List.nil_append, List.append_nil, rdList, h1, take_comma he, take_pre]
  | t :: u :: l, n + 1, acc, rest, _, hn, hC => by
    have h1 := (hC t (by simp)).1 left ([44, 32] ++ (txtSep true (u :: l) ++ (e ++ rest))) (hC t (by simp)).2 (fun c hc => by simp at hc; simp [← hc])
    have h2 := rdList_back he (u :: l) n (acc ++ [t]) rest (by simp) (by simpa using hn) (fun v hv => hC v (by simp [hv]))
    have h3 : txtSep true (t :: u :: l) ++ (e ++ rest) = txtT t ++ ([44, 32] ++ (txtSep true (u :: l) ++ (e ++ rest))) := by simp [txtSep]
    rw [h3]
    simp only [rdList, h1, take_pre, h2]
    simp
theorem begins_len {t : Ty} (h : Begins t) : 1 ≤ (txtT t).length := by
  obtain ⟨a, l, h, -⟩ := h
  rw [h]; simp
theorem sep_cnt : ∀ (l : List Ty) (f : Bool), (∀ t, t ∈ l → Begins t) → l.length ≤ (txtSep f l).length
  | [], _, _ => by simp
  | t :: l, f, h => by
    have h1 := sep_cnt l false fun u hu => h u (by simp [hu])
    have h2 := begins_len (h t (by simp))
    simp only [txtSep, List.length_append, List.length_cons]
    omega
theorem rdArgs_back {left : Nat} {e : List UInt8} (he : e = [62] ∨ e = [41, 32, 45, 62, 32]) (ts : List Ty) (rest : List UInt8) (hC : ∀ t, t ∈ ts → BackC t ∧ t.nodes ≤ left) (hB : ∀ t, t ∈ ts → Begins t) : rdArgs (rdTyp left) e (txtSep true ts ++ (e ++ rest)) = some (ts, rest, false) := by
  unfold rdArgs
  match ts, hC, hB with
  | [], _, _ => simp only [txtSep, List.nil_append, take_pre]
  | t :: l, hC, hB =>
    have hn : takeL e (txtSep true (t :: l) ++ (e ++ rest)) = none := by
      obtain ⟨a, m, h, h1, h2, -⟩ := hB t (by simp)
      simp only [txtSep, if_true, List.nil_append, h, List.cons_append]
      rcases he with rfl | rfl
      · exact take_ne (Ne.symm h1)
      · exact take_ne (Ne.symm h2)
    rw [hn]
    have hc := sep_cnt (t :: l) true hB
    have := rdList_back he (t :: l) ((txtSep true (t :: l) ++ (e ++ rest)).length + 1) [] rest (by simp) (by rw [List.length_append]; omega) hC
    simpa using this
theorem mem_nodes {t : Ty} : ∀ {l : List Ty}, t ∈ l → t.nodes ≤ nodesL l
  | [], h => by cases h
  | a :: l, h => by
    rcases List.mem_cons.1 h with rfl | h
    · simp only [nodesL]; omega
    · have := mem_nodes h; simp only [nodesL]; omega
theorem empty_is {s : ByteArray} (h : s.toList.isEmpty = true) : s = ⟨#[]⟩ := by
  rw [ByteArray.toList_eq, List.isEmpty_iff] at h
  cases s with | mk d => simp at h; rw [h]
/-- A node with a word: what stands ahead of the points. -/
theorem word_back {left : Nat} (t : Ty) (w : List UInt8) (ts : List Ty) (rest : List UInt8) (hw : ∀ c, c ∈ w → isW c = true) (ha : ∃ a l, w = a :: l ∧ a ≠ 36 ∧ a ≠ 63) (hC : ∀ t, t ∈ ts → BackC t ∧ t.nodes ≤ left) (hB : ∀ t, t ∈ ts → Begins t) (hN : nomT w ts = t) (hr : StopD rest) :
    rdAtom (rdTyp left) ((w ++ if ts.isEmpty then [] else 60 :: (txtSep true ts ++ [62])) ++ rest) = some (t, rest, false) := by
  obtain ⟨a, l, rfl, h1, h2⟩ := ha
  cases ts with
  | nil =>
    have hW := word_stop hw hr.w
    have h3 : takeL [36] (a :: l ++ rest) = none := take_ne (Ne.symm h1)
    have h4 : takeL [63] (a :: l ++ rest) = none := take_ne (Ne.symm h2)
    have h5 : takeL [60] rest = none := by
      cases rest with
      | nil => exact take_nil
      | cons c r => exact take_ne fun e => by subst e; rcases hr 60 (by simp) with h | h | h | h <;> cases h
    simp only [List.isEmpty_nil, if_true, List.append_nil, rdAtom, h3, h4, hW.1, hW.2, h5, hN]
  | cons u us =>
    have hW := word_stop (s := 60 :: (txtSep true (u :: us) ++ ([62] ++ rest))) hw (fun c hc => by simp at hc; rw [← hc]; decide)
    have he : ((a :: l) ++ if (u :: us).isEmpty then [] else 60 :: (txtSep true (u :: us) ++ [62])) ++ rest = (a :: l) ++ (60 :: (txtSep true (u :: us) ++ ([62] ++ rest))) := by simp
    have h3 : takeL [36] ((a :: l) ++ (60 :: (txtSep true (u :: us) ++ ([62] ++ rest)))) = none := take_ne (Ne.symm h1)
    have h4 : takeL [63] ((a :: l) ++ (60 :: (txtSep true (u :: us) ++ ([62] ++ rest)))) = none := take_ne (Ne.symm h2)
    have h5 : takeL [60] (60 :: (txtSep true (u :: us) ++ ([62] ++ rest))) = some (txtSep true (u :: us) ++ ([62] ++ rest)) := take_pre [60] _
    have h6 := rdArgs_back (Or.inl rfl) (u :: us) rest hC hB
    rw [he]
    simp only [rdAtom, h3, h4, hW.1, hW.2, h5, h6, hN]
theorem nom_six {s : ByteArray} {ts : List Ty} (h : (!(decide (ts.length = 0) && lit4 s || decide (ts.length = 1) && lit2 s)) = true) : nomT s.data.toList ts = .node 6 s 0 ts := by
  simp only [lit4, lit2, ByteArray.toList_eq, Bool.not_eq_true', Bool.or_eq_false_iff, Bool.and_eq_false_iff, decide_eq_false_iff_not, beq_eq_false_iff_ne] at h
  unfold nomT
  rw [if_neg (by grind), if_neg (by grind), if_neg (by grind), if_neg (by grind), if_neg (by grind), if_neg (by grind), str_back]
end Go.Proofs.YtokmaehefenpmaaDoor
namespace Go.Proofs.YtokmaehefenpmaaDoor
theorem cap_ne {a : UInt8} (h : 65 ≤ a.toNat ∧ a.toNat ≤ 90) : a ≠ 62 ∧ a ≠ 41 ∧ a ≠ 40 ∧ a ≠ 97 ∧ a ≠ 36 ∧ a ≠ 63 := by
  refine ⟨?_, ?_, ?_, ?_, ?_, ?_⟩ <;> (rintro rfl; simp at h)
/-- What a node with a word is read as. -/
theorem word_all {t : Ty} {w : List UInt8} {ts : List Ty} (hx : txtT t = w ++ if ts.isEmpty then [] else 60 :: (txtSep true ts ++ [62])) (hn : t.nodes = 1 + nodesL ts) (hw : ∀ c, c ∈ w → isW c = true) (ha : ∃ a l, w = a :: l ∧ 65 ≤ a.toNat ∧ a.toNat ≤ 90) (hC : ∀ t, t ∈ ts → BackC t) (hB : ∀ t, t ∈ ts → Begins t) (hN : nomT w ts = t) : Begins t ∧ BackR t := by
  obtain ⟨a, l, rfl, h65, h90⟩ := ha
  have hc := cap_ne ⟨h65, h90⟩
  refine ⟨⟨a, _, by rw [hx]; rfl, hc.1, hc.2.1, fun _ _ => ⟨hc.2.2.1, hc.2.2.2.1⟩⟩, fun left rest hl hr => ?_⟩
  have := word_back t (a :: l) ts rest hw ⟨a, l, rfl, hc.2.2.2.2.1, hc.2.2.2.2.2⟩ (left := left) (fun u hu => ⟨hC u hu, by have := mem_nodes hu; omega⟩) hB hN hr
  exact ⟨t, rest, by rw [hx]; exact this, Nat.le_refl _, fun n h => ⟨n, h, rfl⟩⟩
theorem backC_of {t : Ty} (hB : Begins t) (h9 : t.kind ≠ 9) (h10 : t.kind ≠ 10) (hR : BackR t) : BackC t := fun left rest hl hr => by
  obtain ⟨a, l, hx, -, -, hne⟩ := hB
  obtain ⟨g1, g2⟩ := hne h9 h10
  have hp : 1 ≤ t.nodes := by cases t; simp only [Ty.nodes]; omega
  match left, hl with
  | 0, hl => omega
  | left + 1, hl =>
    obtain ⟨b, s, h1, h2, h3⟩ := hR left rest hl hr.d
    obtain ⟨n', h4, h5⟩ := h3 (s.length + 1) (by omega)
    have e1 : takeL [40] (txtT t ++ rest) = none := by rw [hx]; exact take_ne (Ne.symm g1)
    have e2 : takeL [97, 110, 121, 32] (txtT t ++ rest) = none := by rw [hx]; exact take_ne (Ne.symm g2)
    simp only [rdTyp, e1, e2, h1, h5, dots_stop hr]
theorem txt_word {k : Int} {s : ByteArray} {n : Int} {l : List Ty} (h8 : k ≠ 8) (h10 : k ≠ 10) : txtT (.node k s n l) = wordT k s n ++ if l.isEmpty then [] else 60 :: (txtSep true l ++ [62]) := by
  rw [txtT, if_neg h8, if_neg h10]
theorem nodes_eq (k : Int) (s : ByteArray) (n : Int) (l : List Ty) : (Ty.node k s n l).nodes = 1 + nodesL l := by rw [Ty.nodes]
theorem nodesL_cat : ∀ (a b : List Ty), nodesL (a ++ b) = nodesL a + nodesL b
  | [], b => by simp [nodesL]
  | t :: a, b => by simp only [List.cons_append, nodesL, nodesL_cat a b]; omega
theorem txt_back : ∀ t : Ty, t.all (nodeB true) = true → Begins t ∧ BackC t ∧ (t.kind ≠ 9 → t.kind ≠ 10 → BackR t) := Ty.ind fun k s n ts ih ha => by
  simp only [Ty.all, Bool.and_eq_true] at ha
  have hch : ∀ u, u ∈ ts → Begins u ∧ BackC u ∧ (u.kind ≠ 9 → u.kind ≠ 10 → BackR u) := fun u hu => ih u hu (alls_mem ha.2 u hu)
  have hB : ∀ u, u ∈ ts → Begins u := fun u hu => (hch u hu).1
  have hC : ∀ u, u ∈ ts → BackC u := fun u hu => (hch u hu).2.1
  have hnd := ha.1
  simp only [nodeB, Bool.and_eq_true, Bool.or_eq_true, decide_eq_true_eq] at hnd
  obtain ⟨hn, hK⟩ := hnd
  have fin : k ≠ 9 → k ≠ 10 → Begins (.node k s n ts) ∧ BackR (.node k s n ts) → Begins (.node k s n ts) ∧ BackC (.node k s n ts) ∧ ((Ty.node k s n ts).kind ≠ 9 → (Ty.node k s n ts).kind ≠ 10 → BackR (.node k s n ts)) := fun h9 h10 h => ⟨h.1, backC_of h.1 h9 h10 h.2, fun _ _ => h.2⟩
  by_cases h8 : k = 8
  · subst h8
    obtain rfl : n = 0 := hn.resolve_left (by decide)
    match ts, hK, hch with
    | [u], hK, hch =>
      simp [nodeK] at hK
      obtain ⟨g1, g2, g3⟩ := hK
      have hu := hch u (by simp)
      have hx : txtT (.node 8 s 0 [u]) = txtT u ++ (46 :: s.data.toList) := by rw [txtT, if_pos rfl]; simp [txtSep]
      refine fin (by decide) (by decide) ⟨?_, fun left rest hl hr => ?_⟩
      · obtain ⟨a, l, h1, h2, h3, h4⟩ := hu.1
        exact ⟨a, _, by rw [hx, h1]; rfl, h2, h3, fun _ _ => h4 g2 g1⟩
      · have hnu : u.nodes ≤ left + 1 := by rw [nodes_eq] at hl; simp only [nodesL] at hl; omega
        obtain ⟨b, s1, h1, h2, h3⟩ := hu.2.2 g2 g1 left (46 :: (s.data.toList ++ rest)) hnu (fun c hc => by simp at hc; simp [← hc])
        have e : txtT (.node 8 s 0 [u]) ++ rest = txtT u ++ (46 :: (s.data.toList ++ rest)) := by rw [hx]; simp
        refine ⟨b, s1, by rw [e]; exact h1, by simp at h2; omega, fun m hm => ?_⟩
        obtain ⟨n', h4, h5⟩ := h3 m hm
        match n', h4, h5 with
        | n' + 1, h4, h5 =>
          refine ⟨n', by simp at h4; omega, ?_⟩
          rw [h5, dots_step g3 hr]
    | [], hK, _ => simp [nodeK] at hK
    | _ :: _ :: _, hK, _ => simp [nodeK] at hK
  by_cases h10 : k = 10
  · subst h10
    obtain rfl : n = 0 := hn.resolve_left (by decide)
    rcases List.eq_nil_or_concat ts with rfl | ⟨us, v, rfl⟩
    · simp [nodeK] at hK
    · rw [List.concat_eq_append] at *
      simp [nodeK] at hK
      obtain rfl := empty_is (show s.toList.isEmpty = true by simpa using hK.2)
      have hx : txtT (.node 10 ⟨#[]⟩ 0 (us ++ [v])) = 40 :: (txtSep true us ++ ([41, 32, 45, 62, 32] ++ txtT v)) := by rw [txtT, if_neg (by decide), if_pos rfl, txtFn_eq]
      refine ⟨⟨40, _, hx, by decide, by decide, fun _ h => absurd rfl h⟩, fun left rest hl hr => ?_, fun _ h => absurd rfl h⟩
      rw [nodes_eq, nodesL_cat] at hl
      simp only [nodesL] at hl
      match left, hl with
      | 0, hl => omega
      | left + 1, hl =>
        have e1 : txtT (.node 10 ⟨#[]⟩ 0 (us ++ [v])) ++ rest = [40] ++ (txtSep true us ++ ([41, 32, 45, 62, 32] ++ (txtT v ++ rest))) := by rw [hx]; simp
        have h1 := rdArgs_back (left := left) (Or.inr rfl) us (txtT v ++ rest) (fun u hu => ⟨hC u (by simp [hu]), by have := mem_nodes hu; omega⟩) (fun u hu => hB u (by simp [hu]))
        have h2 := hC v (by simp) left rest (by omega) hr
        rw [e1]
        simp only [rdTyp, take_pre, rdFn, h1, h2]
  by_cases h9 : k = 9
  · subst h9
    obtain rfl : n = 0 := hn.resolve_left (by decide)
    simp [nodeK] at hK
    obtain ⟨rfl, hs⟩ := hK
    have hx : txtT (.node 9 s 0 []) = [97, 110, 121, 32] ++ s.data.toList := by rw [txt_word (by decide) (by decide)]; simp [wordT]
    refine ⟨⟨97, _, by rw [hx]; rfl, by decide, by decide, fun h => absurd rfl h⟩, fun left rest hl hr => ?_, fun h => absurd rfl h⟩
    rw [nodes_eq] at hl
    match left, hl with
    | 0, hl => omega
    | left + 1, hl =>
      have e1 : txtT (.node 9 s 0 []) ++ rest = [97, 110, 121, 32] ++ (s.data.toList ++ rest) := by rw [hx]; simp
      have hW := word_stop (tname_word hs).1 hr.d.w
      have h4 : takeL [40] ([97, 110, 121, 32] ++ (s.data.toList ++ rest)) = none := take_ne (by decide)
      rw [e1]
      simp only [rdTyp, h4, take_pre, hW.1, hW.2, str_back]
  have hnn := nodes_eq k s n ts
  rcases kind_cases hK h8 h10 with rfl | rfl | rfl | rfl | rfl | rfl | rfl | rfl | rfl | rfl
  · obtain rfl : n = 0 := hn.resolve_left (by decide)
    simp [nodeK] at hK
    obtain ⟨rfl, hs⟩ := hK
    obtain rfl := empty_is (show s.toList.isEmpty = true by simpa using hs)
    exact fin h9 h10 (word_all (txt_word h8 h10) hnn (by simp [wordT]; decide) ⟨73, [110, 116], by simp [wordT], by decide, by decide⟩ hC hB (by simp [wordT, nomT]))
  · obtain rfl : n = 0 := hn.resolve_left (by decide)
    simp [nodeK] at hK
    obtain ⟨rfl, hs⟩ := hK
    obtain rfl := empty_is (show s.toList.isEmpty = true by simpa using hs)
    exact fin h9 h10 (word_all (txt_word h8 h10) hnn (by simp [wordT]; decide) ⟨66, [111, 111, 108], by simp [wordT], by decide, by decide⟩ hC hB (by simp [wordT, nomT]))
  · obtain rfl : n = 0 := hn.resolve_left (by decide)
    simp [nodeK] at hK
    obtain ⟨rfl, hs⟩ := hK
    obtain rfl := empty_is (show s.toList.isEmpty = true by simpa using hs)
    exact fin h9 h10 (word_all (txt_word h8 h10) hnn (by simp [wordT]; decide) ⟨84, [101, 120, 116], by simp [wordT], by decide, by decide⟩ hC hB (by simp [wordT, nomT]))
  · obtain rfl : n = 0 := hn.resolve_left (by decide)
    simp [nodeK] at hK
    obtain ⟨rfl, hs⟩ := hK
    obtain rfl := empty_is (show s.toList.isEmpty = true by simpa using hs)
    exact fin h9 h10 (word_all (txt_word h8 h10) hnn (by simp [wordT]; decide) ⟨85, [110, 105, 116], by simp [wordT], by decide, by decide⟩ hC hB (by simp [wordT, nomT]))
  · obtain rfl : n = 0 := hn.resolve_left (by decide)
    simp [nodeK] at hK
    obtain ⟨hl, hs⟩ := hK
    obtain rfl := empty_is (show s.toList.isEmpty = true by simpa using hs)
    exact fin h9 h10 (word_all (txt_word h8 h10) hnn (by simp [wordT]; decide) ⟨65, [114, 114, 97, 121], by simp [wordT], by decide, by decide⟩ hC hB (by simp [wordT, nomT, hl]))
  · obtain rfl : n = 0 := hn.resolve_left (by decide)
    simp [nodeK] at hK
    obtain ⟨hl, hs⟩ := hK
    obtain rfl := empty_is (show s.toList.isEmpty = true by simpa using hs)
    exact fin h9 h10 (word_all (txt_word h8 h10) hnn (by simp [wordT]; decide) ⟨87, [101, 97, 107], by simp [wordT], by decide, by decide⟩ hC hB (by simp [wordT, nomT, hl]))
  · obtain rfl : n = 0 := hn.resolve_left (by decide)
    have hK2 : (!(decide (ts.length = 0) && lit4 s || decide (ts.length = 1) && lit2 s)) = true ∧ tnameB s = true := by
      unfold nodeK at hK
      rw [if_neg (by decide), if_neg (by decide), if_pos rfl, Bool.and_eq_true, Bool.and_eq_true] at hK
      exact ⟨hK.1, hK.2.2⟩
    have hw := tname_word hK2.2
    exact fin h9 h10 (word_all (w := s.data.toList) (by rw [txt_word h8 h10]; simp [wordT]) hnn hw.1 hw.2 hC hB (nom_six hK2.1))
  · obtain rfl : n = 0 := hn.resolve_left (by decide)
    simp [nodeK] at hK
    obtain ⟨rfl, hs⟩ := hK
    have hx : txtT (.node 7 s 0 []) = [36] ++ s.data.toList := by rw [txt_word (by decide) (by decide)]; simp [wordT]
    refine fin h9 h10 ⟨⟨36, _, by rw [hx]; rfl, by decide, by decide, fun _ _ => by decide⟩, fun left rest hl hr => ⟨_, rest, ?_, Nat.le_refl _, fun n h => ⟨n, h, rfl⟩⟩⟩
    have hW := word_stop (tname_word hs).1 hr.w
    rw [hx, List.append_assoc]
    simp only [rdAtom, take_pre, hW.1, hW.2, str_back]
  · exact absurd rfl h9
  · simp [nodeK] at hK
    obtain ⟨rfl, hs, hn0, hn1⟩ := hK
    obtain rfl := empty_is (show s.toList.isEmpty = true by simpa using hs)
    obtain ⟨m, rfl⟩ : ∃ m : Nat, n = (m : Int) := ⟨n.toNat, by omega⟩
    have hx : txtT (.node 12 ⟨#[]⟩ (m : Int) []) = [63] ++ Lib.decDigits m := by rw [txt_word (by decide) (by decide)]; simp [wordT]
    refine fin h9 h10 ⟨⟨63, _, by rw [hx]; rfl, by decide, by decide, fun _ _ => by decide⟩, fun left rest hl hr => ⟨_, rest, ?_, Nat.le_refl _, fun n h => ⟨n, h, rfl⟩⟩⟩
    have hW := word_stop (digit_w (show m < 100 by omega)) hr.w
    have h4 : takeL [36] ([63] ++ (Lib.decDigits m ++ rest)) = none := take_ne (by decide)
    rw [hx, List.append_assoc]
    simp only [rdAtom, h4, take_pre, hW.1, hW.2, atoi_back (show m < 40 by omega)]
/-- The reader reads back what is written. -/
theorem rd_txt {t : Ty} (h : t.all (nodeB true) = true) {left : Nat} (hl : t.nodes ≤ left) : rdTyp left (txtT t) = some (t, [], false) := by
  have := (txt_back t h).2.1 left [] hl (fun c hc => by simp at hc)
  simpa using this
end Go.Proofs.YtokmaehefenpmaaDoor
