/- The reader reads back what is written, plainly. The document's reader of texts, plainly, and that it reads back what is written. No program in sight. The document's reader in memory: begins, name. The reader in memory: list. The map of the four plain kinds, laid and looked into. The reader in memory: typ, where it fails; a type's own cells. The document's reader in memory: types. -/
import Derived.Test.YtokmaehefenpmaaDoorPA8
import Derived.Test.YtokmaehefenpmaaDoorPA1
import Derived.Test.YtokmaehefenpmaaDoorPA9
import Derived.Test.YtokmaehefenpmaaDoorPA2
import Derived.Deep.CutBlock
import Derived.Deep.DeepCutAuto
namespace Go.Proofs.YtokmaehefenpmaaDoor
/-- What may stand behind a type: the end, a comma, a closing sign. -/
def Stop (rest : List UInt8) : Prop := ∀ c, rest.head? = some c → c = 44 ∨ c = 62 ∨ c = 41
def StopD (rest : List UInt8) : Prop := ∀ c, rest.head? = some c → c = 44 ∨ c = 62 ∨ c = 41 ∨ c = 46
theorem Stop.d {r : List UInt8} (h : Stop r) : StopD r := fun c hc => by rcases h c hc with h | h | h <;> simp [h]
theorem take_pre (w s : List UInt8) : takeL w (w ++ s) = some s := by
  unfold takeL
  rw [if_pos (by simp)]
  simp
theorem take_ne {a b : UInt8} {w s : List UInt8} (h : a ≠ b) : takeL (a :: w) (b :: s) = none := by
  unfold takeL
  rw [if_neg (by simp [h])]
theorem take_nil {a : UInt8} {w : List UInt8} : takeL (a :: w) [] = none := by
  unfold takeL
  rw [if_neg (by simp)]
/-- A word ends where what follows is no part of one. -/
theorem word_stop : ∀ {w s : List UInt8}, (∀ c, c ∈ w → isW c = true) → (∀ c, s.head? = some c → isW c = false) → (w ++ s).takeWhile isW = w ∧ (w ++ s).dropWhile isW = s
  | [], [], _, _ => by simp
  | [], b :: s, _, h => by
    have := h b (by simp)
    simp [this]
  | a :: w, s, hw, h => by
    obtain ⟨h1, h2⟩ := word_stop (w := w) (s := s) (fun c hc => hw c (by simp [hc])) h
    have ha := hw a (by simp)
    simp [ha, h1, h2]
theorem StopD.w {r : List UInt8} (h : StopD r) : ∀ c, r.head? = some c → isW c = false := fun c hc => by
  rcases h c hc with rfl | rfl | rfl | rfl <;> decide
theorem tname_word {s : ByteArray} (h : tnameB s = true) : (∀ c, c ∈ s.data.toList → isW c = true) ∧ ∃ a l, s.data.toList = a :: l ∧ 65 ≤ a.toNat ∧ a.toNat ≤ 90 := by
  unfold tnameB at h
  rw [Bool.and_eq_true] at h
  have h2 := h.2
  cases hl : s.data.toList with
  | nil => rw [hl] at h2; cases h2
  | cons a l =>
    rw [hl] at h2
    simp only [Bool.and_eq_true] at h2
    refine ⟨fun c hc => ?_, a, l, rfl, ?_⟩
    · rw [isW_okc]; exact List.all_eq_true.1 h2.2 c hc
    · have := of_decide_eq_true h2.1
      omega
theorem str_back (s : ByteArray) : strOf s.data.toList = s := by cases s; rfl
theorem dots_stop {n : Nat} {t : Ty} {r : List UInt8} (h : Stop r) : dots n t r = (t, r) := by
  cases n with
  | zero => rfl
  | succ n =>
    have : takeL [46] r = none := by
      cases r with
      | nil => exact take_nil
      | cons c r =>
        refine take_ne fun e => ?_
        subst e
        rcases h 46 (by simp) with h | h | h <;> cases h
    simp only [dots, this]
theorem dots_step {n : Nat} {u : Ty} {s : ByteArray} {r : List UInt8} (hs : tnameB s = true) (hr : StopD r) : dots (n + 1) u (46 :: (s.data.toList ++ r)) = dots n (.node 8 s 0 [u]) r := by
  have h1 := take_pre [46] (s.data.toList ++ r)
  have h2 := word_stop (tname_word hs).1 hr.w
  simp only [List.cons_append, List.nil_append] at h1
  simp only [dots, h1, h2.1, h2.2, str_back]

theorem digit_w {n : Nat} (h : n < 100) : ∀ c, c ∈ Lib.decDigits n → isW c = true := by
  have key : ∀ d : Nat, d < 10 → isW (UInt8.ofNat (48 + d)) = true := by decide
  by_cases h1 : n < 10
  · rw [Lib.decDigits_one h1]
    intro c hc
    simp only [List.mem_singleton] at hc
    subst hc; exact key n h1
  · rw [Lib.decDigits_two h1 h]
    intro c hc
    simp only [List.mem_cons, List.not_mem_nil, or_false] at hc
    rcases hc with rfl | rfl
    · exact key _ (by omega)
    · exact key _ (by omega)
def backN (n : Nat) : Bool := match Lib.atoiAll (if n < 10 then [UInt8.ofNat (48 + n)] else [UInt8.ofNat (48 + n / 10), UInt8.ofNat (48 + n % 10)]) with | .ok v => v == (n : Int) | _ => false
theorem backN_all : ∀ n : Nat, n < 40 → backN n = true := by decide
theorem atoi_back {n : Nat} (h : n < 40) : Lib.atoiAll (Lib.decDigits n) = .ok (n : Int) := by
  have hb := backN_all n h
  have he : Lib.decDigits n = if n < 10 then [UInt8.ofNat (48 + n)] else [UInt8.ofNat (48 + n / 10), UInt8.ofNat (48 + n % 10)] := by
    split
    · rename_i g; exact Lib.decDigits_one g
    · rename_i g; exact Lib.decDigits_two g (by omega)
  unfold backN at hb
  rw [← he] at hb
  split at hb
  · rename_i v hv
    rw [hv]
    simp only [beq_iff_eq] at hb
    rw [hb]
  · cases hb
/-- How a text begins. -/
def Begins (t : Ty) : Prop := ∃ a l, txtT t = a :: l ∧ a ≠ 62 ∧ a ≠ 41 ∧ (t.kind ≠ 9 → t.kind ≠ 10 → a ≠ 40 ∧ a ≠ 97)
def BackC (t : Ty) : Prop := ∀ left rest, t.nodes ≤ left → Stop rest → rdTyp left (txtT t ++ rest) = some (t, rest, false)
def BackR (t : Ty) : Prop := ∀ left rest, t.nodes ≤ left + 1 → StopD rest → ∃ b s, rdAtom (rdTyp left) (txtT t ++ rest) = some (b, s, false) ∧ rest.length ≤ s.length ∧ ∀ n, s.length < n → ∃ n', rest.length < n' ∧ dots n b s = dots n' t rest
theorem stop_end {e rest : List UInt8} (he : e = [62] ∨ e = [41, 32, 45, 62, 32]) : Stop (e ++ rest) := fun c hc => by
  rcases he with rfl | rfl <;> simp at hc <;> simp [← hc]
theorem take_comma {e rest : List UInt8} (he : e = [62] ∨ e = [41, 32, 45, 62, 32]) : takeL [44, 32] (e ++ rest) = none := by
  rcases he with rfl | rfl <;> exact take_ne (by decide)
theorem rdList_back {left : Nat} {e : List UInt8} (he : e = [62] ∨ e = [41, 32, 45, 62, 32]) : ∀ (ts : List Ty) (n : Nat) (acc : List Ty) (rest : List UInt8), ts ≠ [] → ts.length < n → (∀ t, t ∈ ts → BackC t ∧ t.nodes ≤ left) → rdList (rdTyp left) e n acc (txtSep true ts ++ (e ++ rest)) = some (acc ++ ts, rest, false)
  | [], _, _, _, h, _, _ => absurd rfl h
  | _ :: _, 0, _, _, _, h, _ => by omega
  | [t], n + 1, acc, rest, _, _, hC => by
    have h1 := (hC t (by simp)).1 left (e ++ rest) (hC t (by simp)).2 (stop_end he)
    simp only [txtSep, if_true, List.nil_append, List.append_nil, rdList, h1, take_comma he, take_pre]
  | t :: u :: l, n + 1, acc, rest, _, hn, hC => by
    have h1 := (hC t (by simp)).1 left ([44, 32] ++ (txtSep true (u :: l) ++ (e ++ rest))) (hC t (by simp)).2 (fun c hc => by simp at hc; simp [← hc])
    have h2 := rdList_back he (u :: l) n (acc ++ [t]) rest (by simp) (by simpa using hn) (fun v hv => hC v (by simp [hv]))
    have h3 : txtSep true (t :: u :: l) ++ (e ++ rest) = txtT t ++ ([44, 32] ++ (txtSep true (u :: l) ++ (e ++ rest))) := by simp [txtSep]
    rw [h3]
    simp only [rdList, h1, take_pre, h2]
    simp
theorem begins_len {t : Ty} (h : Begins t) : 1 ≤ (txtT t).length := by
  obtain ⟨a, l, h, -⟩ := h
  rw [h]; simp
theorem sep_cnt : ∀ (l : List Ty) (f : Bool), (∀ t, t ∈ l → Begins t) → l.length ≤ (txtSep f l).length
  | [], _, _ => by simp
  | t :: l, f, h => by
    have h1 := sep_cnt l false fun u hu => h u (by simp [hu])
    have h2 := begins_len (h t (by simp))
    simp only [txtSep, List.length_append, List.length_cons]
    omega
theorem rdArgs_back {left : Nat} {e : List UInt8} (he : e = [62] ∨ e = [41, 32, 45, 62, 32]) (ts : List Ty) (rest : List UInt8) (hC : ∀ t, t ∈ ts → BackC t ∧ t.nodes ≤ left) (hB : ∀ t, t ∈ ts → Begins t) : rdArgs (rdTyp left) e (txtSep true ts ++ (e ++ rest)) = some (ts, rest, false) := by
  unfold rdArgs
  match ts, hC, hB with
  | [], _, _ => simp only [txtSep, List.nil_append, take_pre]
  | t :: l, hC, hB =>
    have hn : takeL e (txtSep true (t :: l) ++ (e ++ rest)) = none := by
      obtain ⟨a, m, h, h1, h2, -⟩ := hB t (by simp)
      simp only [txtSep, if_true, List.nil_append, h, List.cons_append]
      rcases he with rfl | rfl
      · exact take_ne (Ne.symm h1)
      · exact take_ne (Ne.symm h2)
    rw [hn]
    have hc := sep_cnt (t :: l) true hB
    have := rdList_back he (t :: l) ((txtSep true (t :: l) ++ (e ++ rest)).length + 1) [] rest (by simp) (by rw [List.length_append]; omega) hC
    simpa using this
theorem mem_nodes {t : Ty} : ∀ {l : List Ty}, t ∈ l → t.nodes ≤ nodesL l
  | [], h => by cases h
  | a :: l, h => by
    rcases List.mem_cons.1 h with rfl | h
    · simp only [nodesL]; omega
    · have := mem_nodes h; simp only [nodesL]; omega
theorem empty_is {s : ByteArray} (h : s.toList.isEmpty = true) : s = ⟨#[]⟩ := by
  rw [ByteArray.toList_eq, List.isEmpty_iff] at h
  cases s with | mk d => simp at h; rw [h]
/-- A node with a word: what stands ahead of the points. -/
theorem word_back {left : Nat} (t : Ty) (w : List UInt8) (ts : List Ty) (rest : List UInt8) (hw : ∀ c, c ∈ w → isW c = true) (ha : ∃ a l, w = a :: l ∧ a ≠ 36 ∧ a ≠ 63) (hC : ∀ t, t ∈ ts → BackC t ∧ t.nodes ≤ left) (hB : ∀ t, t ∈ ts → Begins t) (hN : nomT w ts = t) (hr : StopD rest) :
    rdAtom (rdTyp left) ((w ++ if ts.isEmpty then [] else 60 :: (txtSep true ts ++ [62])) ++ rest) = some (t, rest, false) := by
  obtain ⟨a, l, rfl, h1, h2⟩ := ha
  cases ts with
  | nil =>
    have hW := word_stop hw hr.w
    have h3 : takeL [36] (a :: l ++ rest) = none := take_ne (Ne.symm h1)
    have h4 : takeL [63] (a :: l ++ rest) = none := take_ne (Ne.symm h2)
    have h5 : takeL [60] rest = none := by
      cases rest with
      | nil => exact take_nil
      | cons c r => exact take_ne fun e => by subst e; rcases hr 60 (by simp) with h | h | h | h <;> cases h
    simp only [List.isEmpty_nil, if_true, List.append_nil, rdAtom, h3, h4, hW.1, hW.2, h5, hN]
  | cons u us =>
    have hW := word_stop (s := 60 :: (txtSep true (u :: us) ++ ([62] ++ rest))) hw (fun c hc => by simp at hc; rw [← hc]; decide)
    have he : ((a :: l) ++ if (u :: us).isEmpty then [] else 60 :: (txtSep true (u :: us) ++ [62])) ++ rest = (a :: l) ++ (60 :: (txtSep true (u :: us) ++ ([62] ++ rest))) := by simp
    have h3 : takeL [36] ((a :: l) ++ (60 :: (txtSep true (u :: us) ++ ([62] ++ rest)))) = none := take_ne (Ne.symm h1)
    have h4 : takeL [63] ((a :: l) ++ (60 :: (txtSep true (u :: us) ++ ([62] ++ rest)))) = none := take_ne (Ne.symm h2)
    have h5 : takeL [60] (60 :: (txtSep true (u :: us) ++ ([62] ++ rest))) = some (txtSep true (u :: us) ++ ([62] ++ rest)) := take_pre [60] _
    have h6 := rdArgs_back (Or.inl rfl) (u :: us) rest hC hB
    rw [he]
    simp only [rdAtom, h3, h4, hW.1, hW.2, h5, h6, hN]
theorem nom_six {s : ByteArray} {ts : List Ty} (h : (!(decide (ts.length = 0) && lit4 s || decide (ts.length = 1) && lit2 s)) = true) : nomT s.data.toList ts = .node 6 s 0 ts := by
  simp only [lit4, lit2, ByteArray.toList_eq, Bool.not_eq_true', Bool.or_eq_false_iff, Bool.and_eq_false_iff, decide_eq_false_iff_not, beq_eq_false_iff_ne] at h
  unfold nomT
  rw [if_neg (by grind), if_neg (by grind), if_neg (by grind), if_neg (by grind), if_neg (by grind), if_neg (by grind), str_back]
end Go.Proofs.YtokmaehefenpmaaDoor
namespace Go.Proofs.YtokmaehefenpmaaDoor
theorem cap_ne {a : UInt8} (h : 65 ≤ a.toNat ∧ a.toNat ≤ 90) : a ≠ 62 ∧ a ≠ 41 ∧ a ≠ 40 ∧ a ≠ 97 ∧ a ≠ 36 ∧ a ≠ 63 := by
  refine ⟨?_, ?_, ?_, ?_, ?_, ?_⟩ <;> (rintro rfl; simp at h)
/-- What a node with a word is read as. -/
theorem word_all {t : Ty} {w : List UInt8} {ts : List Ty} (hx : txtT t = w ++ if ts.isEmpty then [] else 60 :: (txtSep true ts ++ [62])) (hn : t.nodes = 1 + nodesL ts) (hw : ∀ c, c ∈ w → isW c = true) (ha : ∃ a l, w = a :: l ∧ 65 ≤ a.toNat ∧ a.toNat ≤ 90) (hC : ∀ t, t ∈ ts → BackC t) (hB : ∀ t, t ∈ ts → Begins t) (hN : nomT w ts = t) : Begins t ∧ BackR t := by
  obtain ⟨a, l, rfl, h65, h90⟩ := ha
  have hc := cap_ne ⟨h65, h90⟩
  refine ⟨⟨a, _, by rw [hx]; rfl, hc.1, hc.2.1, fun _ _ => ⟨hc.2.2.1, hc.2.2.2.1⟩⟩, fun left rest hl hr => ?_⟩
  have := word_back t (a :: l) ts rest hw ⟨a, l, rfl, hc.2.2.2.2.1, hc.2.2.2.2.2⟩ (left := left) (fun u hu => ⟨hC u hu, by have := mem_nodes hu; omega⟩) hB hN hr
  exact ⟨t, rest, by rw [hx]; exact this, Nat.le_refl _, fun n h => ⟨n, h, rfl⟩⟩
theorem backC_of {t : Ty} (hB : Begins t) (h9 : t.kind ≠ 9) (h10 : t.kind ≠ 10) (hR : BackR t) : BackC t := fun left rest hl hr => by
  obtain ⟨a, l, hx, -, -, hne⟩ := hB
  obtain ⟨g1, g2⟩ := hne h9 h10
  have hp : 1 ≤ t.nodes := by cases t; simp only [Ty.nodes]; omega
  match left, hl with
  | 0, hl => omega
  | left + 1, hl =>
    obtain ⟨b, s, h1, h2, h3⟩ := hR left rest hl hr.d
    obtain ⟨n', h4, h5⟩ := h3 (s.length + 1) (by omega)
    have e1 : takeL [40] (txtT t ++ rest) = none := by rw [hx]; exact take_ne (Ne.symm g1)
    have e2 : takeL [97, 110, 121, 32] (txtT t ++ rest) = none := by rw [hx]; exact take_ne (Ne.symm g2)
    simp only [rdTyp, e1, e2, h1, h5, dots_stop hr]
theorem txt_word {k : Int} {s : ByteArray} {n : Int} {l : List Ty} (h8 : k ≠ 8) (h10 : k ≠ 10) : txtT (.node k s n l) = wordT k s n ++ if l.isEmpty then [] else 60 :: (txtSep true l ++ [62]) := by
  rw [txtT, if_neg h8, if_neg h10]
theorem nodes_eq (k : Int) (s : ByteArray) (n : Int) (l : List Ty) : (Ty.node k s n l).nodes = 1 + nodesL l := by rw [Ty.nodes]
theorem nodesL_cat : ∀ (a b : List Ty), nodesL (a ++ b) = nodesL a + nodesL b
  | [], b => by simp [nodesL]
  | t :: a, b => by simp only [List.cons_append, nodesL, nodesL_cat a b]; omega
theorem txt_back : ∀ t : Ty, t.all (nodeB true) = true → Begins t ∧ BackC t ∧ (t.kind ≠ 9 → t.kind ≠ 10 → BackR t) := Ty.ind fun k s n ts ih ha => by
  simp only [Ty.all, Bool.and_eq_true] at ha
  have hch : ∀ u, u ∈ ts → Begins u ∧ BackC u ∧ (u.kind ≠ 9 → u.kind ≠ 10 → BackR u) := fun u hu => ih u hu (alls_mem ha.2 u hu)
  have hB : ∀ u, u ∈ ts → Begins u := fun u hu => (hch u hu).1
  have hC : ∀ u, u ∈ ts → BackC u := fun u hu => (hch u hu).2.1
  have hnd := ha.1
  simp only [nodeB, Bool.and_eq_true, Bool.or_eq_true, decide_eq_true_eq] at hnd
  obtain ⟨hn, hK⟩ := hnd
  have fin : k ≠ 9 → k ≠ 10 → Begins (.node k s n ts) ∧ BackR (.node k s n ts) → Begins (.node k s n ts) ∧ BackC (.node k s n ts) ∧ ((Ty.node k s n ts).kind ≠ 9 → (Ty.node k s n ts).kind ≠ 10 → BackR (.node k s n ts)) := fun h9 h10 h => ⟨h.1, backC_of h.1 h9 h10 h.2, fun _ _ => h.2⟩
  by_cases h8 : k = 8
  · subst h8
    obtain rfl : n = 0 := hn.resolve_left (by decide)
    match ts, hK, hch with
    | [u], hK, hch =>
      simp [nodeK] at hK
      obtain ⟨g1, g2, g3⟩ := hK
      have hu := hch u (by simp)
      have hx : txtT (.node 8 s 0 [u]) = txtT u ++ (46 :: s.data.toList) := by rw [txtT, if_pos rfl]; simp [txtSep]
      refine fin (by decide) (by decide) ⟨?_, fun left rest hl hr => ?_⟩
      · obtain ⟨a, l, h1, h2, h3, h4⟩ := hu.1
        exact ⟨a, _, by rw [hx, h1]; rfl, h2, h3, fun _ _ => h4 g2 g1⟩
      · have hnu : u.nodes ≤ left + 1 := by rw [nodes_eq] at hl; simp only [nodesL] at hl; omega
        obtain ⟨b, s1, h1, h2, h3⟩ := hu.2.2 g2 g1 left (46 :: (s.data.toList ++ rest)) hnu (fun c hc => by simp at hc; simp [← hc])
        have e : txtT (.node 8 s 0 [u]) ++ rest = txtT u ++ (46 :: (s.data.toList ++ rest)) := by rw [hx]; simp
        refine ⟨b, s1, by rw [e]; exact h1, by simp at h2; omega, fun m hm => ?_⟩
        obtain ⟨n', h4, h5⟩ := h3 m hm
        match n', h4, h5 with
        | n' + 1, h4, h5 =>
          refine ⟨n', by simp at h4; omega, ?_⟩
          rw [h5, dots_step g3 hr]
    | [], hK, _ => simp [nodeK] at hK
    | _ :: _ :: _, hK, _ => simp [nodeK] at hK
  by_cases h10 : k = 10
  · subst h10
    obtain rfl : n = 0 := hn.resolve_left (by decide)
    rcases List.eq_nil_or_concat ts with rfl | ⟨us, v, rfl⟩
    · simp [nodeK] at hK
    · rw [List.concat_eq_append] at *
      simp [nodeK] at hK
      obtain rfl := empty_is (show s.toList.isEmpty = true by simpa using hK.2)
      have hx : txtT (.node 10 ⟨#[]⟩ 0 (us ++ [v])) = 40 :: (txtSep true us ++ ([41, 32, 45, 62, 32] ++ txtT v)) := by rw [txtT, if_neg (by decide), if_pos rfl, txtFn_eq]
      refine ⟨⟨40, _, hx, by decide, by decide, fun _ h => absurd rfl h⟩, fun left rest hl hr => ?_, fun _ h => absurd rfl h⟩
      rw [nodes_eq, nodesL_cat] at hl
      simp only [nodesL] at hl
      match left, hl with
      | 0, hl => omega
      | left + 1, hl =>
        have e1 : txtT (.node 10 ⟨#[]⟩ 0 (us ++ [v])) ++ rest = [40] ++ (txtSep true us ++ ([41, 32, 45, 62, 32] ++ (txtT v ++ rest))) := by rw [hx]; simp
        have h1 := rdArgs_back (left := left) (Or.inr rfl) us (txtT v ++ rest) (fun u hu => ⟨hC u (by simp [hu]), by have := mem_nodes hu; omega⟩) (fun u hu => hB u (by simp [hu]))
        have h2 := hC v (by simp) left rest (by omega) hr
        rw [e1]
        simp only [rdTyp, take_pre, rdFn, h1, h2]
  by_cases h9 : k = 9
  · subst h9
    obtain rfl : n = 0 := hn.resolve_left (by decide)
    simp [nodeK] at hK
    obtain ⟨rfl, hs⟩ := hK
    have hx : txtT (.node 9 s 0 []) = [97, 110, 121, 32] ++ s.data.toList := by rw [txt_word (by decide) (by decide)]; simp [wordT]
    refine ⟨⟨97, _, by rw [hx]; rfl, by decide, by decide, fun h => absurd rfl h⟩, fun left rest hl hr => ?_, fun h => absurd rfl h⟩
    rw [nodes_eq] at hl
    match left, hl with
    | 0, hl => omega
    | left + 1, hl =>
      have e1 : txtT (.node 9 s 0 []) ++ rest = [97, 110, 121, 32] ++ (s.data.toList ++ rest) := by rw [hx]; simp
      have hW := word_stop (tname_word hs).1 hr.d.w
      have h4 : takeL [40] ([97, 110, 121, 32] ++ (s.data.toList ++ rest)) = none := take_ne (by decide)
      rw [e1]
      simp only [rdTyp, h4, take_pre, hW.1, hW.2, str_back]
  have hnn := nodes_eq k s n ts
  rcases kind_cases hK h8 h10 with rfl | rfl | rfl | rfl | rfl | rfl | rfl | rfl | rfl | rfl
  · obtain rfl : n = 0 := hn.resolve_left (by decide)
    simp [nodeK] at hK
    obtain ⟨rfl, hs⟩ := hK
    obtain rfl := empty_is (show s.toList.isEmpty = true by simpa using hs)
    exact fin h9 h10 (word_all (txt_word h8 h10) hnn (by simp [wordT]; decide) ⟨73, [110, 116], by simp [wordT], by decide, by decide⟩ hC hB (by simp [wordT, nomT]))
  · obtain rfl : n = 0 := hn.resolve_left (by decide)
    simp [nodeK] at hK
    obtain ⟨rfl, hs⟩ := hK
    obtain rfl := empty_is (show s.toList.isEmpty = true by simpa using hs)
    exact fin h9 h10 (word_all (txt_word h8 h10) hnn (by simp [wordT]; decide) ⟨66, [111, 111, 108], by simp [wordT], by decide, by decide⟩ hC hB (by simp [wordT, nomT]))
  · obtain rfl : n = 0 := hn.resolve_left (by decide)
    simp [nodeK] at hK
    obtain ⟨rfl, hs⟩ := hK
    obtain rfl := empty_is (show s.toList.isEmpty = true by simpa using hs)
    exact fin h9 h10 (word_all (txt_word h8 h10) hnn (by simp [wordT]; decide) ⟨84, [101, 120, 116], by simp [wordT], by decide, by decide⟩ hC hB (by simp [wordT, nomT]))
  · obtain rfl : n = 0 := hn.resolve_left (by decide)
    simp [nodeK] at hK
    obtain ⟨rfl, hs⟩ := hK
    obtain rfl := empty_is (show s.toList.isEmpty = true by simpa using hs)
    exact fin h9 h10 (word_all (txt_word h8 h10) hnn (by simp [wordT]; decide) ⟨85, [110, 105, 116], by simp [wordT], by decide, by decide⟩ hC hB (by simp [wordT, nomT]))
  · obtain rfl : n = 0 := hn.resolve_left (by decide)
    simp [nodeK] at hK
    obtain ⟨hl, hs⟩ := hK
    obtain rfl := empty_is (show s.toList.isEmpty = true by simpa using hs)
    exact fin h9 h10 (word_all (txt_word h8 h10) hnn (by simp [wordT]; decide) ⟨65, [114, 114, 97, 121], by simp [wordT], by decide, by decide⟩ hC hB (by simp [wordT, nomT, hl]))
  · obtain rfl : n = 0 := hn.resolve_left (by decide)
    simp [nodeK] at hK
    obtain ⟨hl, hs⟩ := hK
    obtain rfl := empty_is (show s.toList.isEmpty = true by simpa using hs)
    exact fin h9 h10 (word_all (txt_word h8 h10) hnn (by simp [wordT]; decide) ⟨87, [101, 97, 107], by simp [wordT], by decide, by decide⟩ hC hB (by simp [wordT, nomT, hl]))
  · obtain rfl : n = 0 := hn.resolve_left (by decide)
    have hK2 : (!(decide (ts.length = 0) && lit4 s || decide (ts.length = 1) && lit2 s)) = true ∧ tnameB s = true := by
      unfold nodeK at hK
      rw [if_neg (by decide), if_neg (by decide), if_pos rfl, Bool.and_eq_true, Bool.and_eq_true] at hK
      exact ⟨hK.1, hK.2.2⟩
    have hw := tname_word hK2.2
    exact fin h9 h10 (word_all (w := s.data.toList) (by rw [txt_word h8 h10]; simp [wordT]) hnn hw.1 hw.2 hC hB (nom_six hK2.1))
  · obtain rfl : n = 0 := hn.resolve_left (by decide)
    simp [nodeK] at hK
    obtain ⟨rfl, hs⟩ := hK
    have hx : txtT (.node 7 s 0 []) = [36] ++ s.data.toList := by rw [txt_word (by decide) (by decide)]; simp [wordT]
    refine fin h9 h10 ⟨⟨36, _, by rw [hx]; rfl, by decide, by decide, fun _ _ => by decide⟩, fun left rest hl hr => ⟨_, rest, ?_, Nat.le_refl _, fun n h => ⟨n, h, rfl⟩⟩⟩
    have hW := word_stop (tname_word hs).1 hr.w
    rw [hx, List.append_assoc]
    simp only [rdAtom, take_pre, hW.1, hW.2, str_back]
  · exact absurd rfl h9
  · simp [nodeK] at hK
    obtain ⟨rfl, hs, hn0, hn1⟩ := hK
    obtain rfl := empty_is (show s.toList.isEmpty = true by simpa using hs)
    obtain ⟨m, rfl⟩ : ∃ m : Nat, n = (m : Int) := ⟨n.toNat, by omega⟩
    have hx : txtT (.node 12 ⟨#[]⟩ (m : Int) []) = [63] ++ Lib.decDigits m := by rw [txt_word (by decide) (by decide)]; simp [wordT]
    refine fin h9 h10 ⟨⟨63, _, by rw [hx]; rfl, by decide, by decide, fun _ _ => by decide⟩, fun left rest hl hr => ⟨_, rest, ?_, Nat.le_refl _, fun n h => ⟨n, h, rfl⟩⟩⟩
    have hW := word_stop (digit_w (show m < 100 by omega)) hr.w
    have h4 : takeL [36] ([63] ++ (Lib.decDigits m ++ rest)) = none := take_ne (by decide)
    rw [hx, List.append_assoc]
    simp only [rdAtom, h4, take_pre, hW.1, hW.2, show atoiP (Lib.decDigits m) = ((m : Int), false) from by unfold atoiP; rw [atoi_back (show m < 40 by omega)]]
/-- The reader reads back what is written. -/
theorem rd_txt {t : Ty} (h : t.all (nodeB true) = true) {left : Nat} (hl : t.nodes ≤ left) : rdTyp left (txtT t) = some (t, [], false) := by
  have := (txt_back t h).2.1 left [] hl (fun c hc => by simp at hc)
  simpa using this
end Go.Proofs.YtokmaehefenpmaaDoor
namespace Go.Proofs.YtokmaehefenpmaaDoor
def itTypes (rd : List UInt8 → Option (Ty × List UInt8)) (e : UInt8) : Nat → List Ty → List UInt8 → Option (List Ty × List UInt8)
  | 0, _, _ => none
  | n + 1, acc, s => match rd s with
    | none => none
    | some (_, []) => none
    | some (t, c :: s1) => if c = e then some (acc ++ [t], s1) else match takeL [44, 32] (c :: s1) with
      | none => none
      | some s2 => itTypes rd e n (acc ++ [t]) s2
/-- The digits of a variable. -/
def numI : Nat → List UInt8 → Nat × List UInt8
  | n, [] => (n, [])
  | n, c :: s => if (48 ≤ c.toNat ∧ c.toNat ≤ 57) ∧ n < 40 then numI (10 * n + (c.toNat - 48)) s else (n, c :: s)
def itAtom (rd : List UInt8 → Option (Ty × List UInt8)) (s : List UInt8) : Option (Ty × List UInt8) := match takeL [36] s with
  | some s1 => some (.node 7 (strOf (s1.takeWhile isW)) 0 [], s1.dropWhile isW)
  | none => match takeL [63] s with
    | some s1 => some (.node 12 ⟨#[]⟩ ((numI 0 s1).1 : Int) [], (numI 0 s1).2)
    | none => match takeL [60] (s.dropWhile isW) with
      | some s2 => match itTypes rd 62 (s2.length + 1) [] s2 with
        | some (l, s3) => some (nomT (s.takeWhile isW) l, s3)
        | none => none
      | none => some (nomT (s.takeWhile isW) [], s.dropWhile isW)
def itArgs (rd : List UInt8 → Option (Ty × List UInt8)) (s1 : List UInt8) : Option (List Ty × List UInt8) := match takeL [41] s1 with
  | some s2 => some ([], s2)
  | none => itTypes rd 41 (s1.length + 1) [] s1
def itFn (rd : List UInt8 → Option (Ty × List UInt8)) (s1 : List UInt8) : Option (Ty × List UInt8) := match itArgs rd s1 with
  | none => none
  | some (l, s2) => match takeL [32, 45, 62, 32] s2 with
    | none => none
    | some s3 => match rd s3 with
      | none => none
      | some (t, s4) => some (.node 10 ⟨#[]⟩ 0 (l ++ [t]), s4)
def itOne : Nat → List UInt8 → Option (Ty × List UInt8)
  | 0, _ => none
  | n + 1, s => match takeL [40] s with
    | some s1 => itFn (itOne n) s1
    | none => match takeL [97, 110, 121, 32] s with
      | some s1 => some (.node 9 (strOf (s1.takeWhile isW)) 0 [], s1.dropWhile isW)
      | none => match itAtom (itOne n) s with
        | none => none
        | some (t, s1) => some (dots (s1.length + 1) t s1)
def SufI (rd : List UInt8 → Option (Ty × List UInt8)) : Prop := ∀ s t s1, rd s = some (t, s1) → s1 <:+ s
theorem take_suf {w s s1 : List UInt8} (h : takeL w s = some s1) : s1 <:+ s := by
  unfold takeL at h
  split at h
  · cases h; exact List.drop_suffix _ _
  · cases h
theorem dots_suf : ∀ (n : Nat) (t : Ty) (s : List UInt8), (dots n t s).2 <:+ s
  | 0, t, s => by simp [dots]
  | n + 1, t, s => by
    simp only [dots]
    split
    · rename_i s1 h
      exact (dots_suf n _ _).trans ((List.dropWhile_suffix _).trans (take_suf h))
    · exact List.suffix_rfl
theorem itTypes_suf {rd : List UInt8 → Option (Ty × List UInt8)} (hr : SufI rd) (e : UInt8) : ∀ (n : Nat) (acc : List Ty) (s : List UInt8) (l : List Ty) (s' : List UInt8), itTypes rd e n acc s = some (l, s') → s' <:+ s
  | 0, _, _, _, _, h => by simp [itTypes] at h
  | n + 1, acc, s, l, s', h => by
    simp only [itTypes] at h
    split at h
    · cases h
    · cases h
    · rename_i t c s1 h1
      have h2 := hr _ _ _ h1
      split at h
      · cases h; exact (List.suffix_cons _ _).trans h2
      · split at h
        · cases h
        · rename_i s2 h3
          exact (itTypes_suf hr e n _ _ _ _ h).trans ((take_suf h3).trans h2)
theorem numI_suf : ∀ (n : Nat) (s : List UInt8), (numI n s).2 <:+ s
  | n, [] => by simp [numI]
  | n, c :: s => by
    simp only [numI]
    split
    · exact (numI_suf _ s).trans (List.suffix_cons _ _)
    · exact List.suffix_rfl
theorem itArgs_suf {rd : List UInt8 → Option (Ty × List UInt8)} (hr : SufI rd) {s : List UInt8} {l : List Ty} {s' : List UInt8} (h : itArgs rd s = some (l, s')) : s' <:+ s := by
  unfold itArgs at h
  split at h
  · rename_i s2 h1
    cases h; exact take_suf h1
  · exact itTypes_suf hr _ _ _ _ _ _ h
theorem itAtom_suf {rd : List UInt8 → Option (Ty × List UInt8)} (hr : SufI rd) {s : List UInt8} {t : Ty} {s' : List UInt8} (h : itAtom rd s = some (t, s')) : s' <:+ s := by
  unfold itAtom at h
  split at h
  · rename_i s2 h2
    cases h; exact (List.dropWhile_suffix _).trans (take_suf h2)
  · split at h
    · rename_i s2 h2
      cases h; exact (numI_suf _ _).trans (take_suf h2)
    · split at h
      · rename_i s2 h2
        split at h
        · rename_i h4
          cases h
          exact (itTypes_suf hr _ _ _ _ _ _ h4).trans ((take_suf h2).trans (List.dropWhile_suffix _))
        · cases h
      · cases h; exact List.dropWhile_suffix _
theorem itOne_suf : ∀ n, SufI (itOne n)
  | 0 => fun s t s1 h => by simp [itOne] at h
  | n + 1 => fun s t s1 h => by
    have ih := itOne_suf n
    simp only [itOne] at h
    split at h
    · rename_i s2 h2
      unfold itFn at h
      split at h
      · cases h
      · rename_i l s3 h3
        split at h
        · cases h
        · rename_i s4 h5
          split at h
          · cases h
          · rename_i h7
            cases h
            exact (ih _ _ _ h7).trans ((take_suf h5).trans ((itArgs_suf ih h3).trans (take_suf h2)))
    · split at h
      · rename_i s2 h2
        cases h; exact (List.dropWhile_suffix _).trans (take_suf h2)
      · split at h
        · cases h
        · rename_i t2 s2 h2
          have h4 := dots_suf (s2.length + 1) t2 s2
          simp only [Option.some.injEq] at h
          rw [h] at h4
          exact h4.trans (itAtom_suf ih h2)
/-- A rest stands at its place. -/
theorem suf_at {l s : List UInt8} (h : s <:+ l) : l.drop (l.length - s.length) = s := (List.suffix_iff_eq_drop.1 h).symm
def BackI (t : Ty) : Prop := ∀ n rest, (txtT t ++ rest).length < n → Stop rest → itOne n (txtT t ++ rest) = some (t, rest)
def BackJ (t : Ty) : Prop := ∀ n rest, (txtT t ++ rest).length ≤ n → StopD rest → ∃ b s, itAtom (itOne n) (txtT t ++ rest) = some (b, s) ∧ rest.length ≤ s.length ∧ ∀ m, s.length < m → ∃ m', rest.length < m' ∧ dots m b s = dots m' t rest
theorem itTypes_back {n : Nat} {e : UInt8} (he : e = 62 ∨ e = 41) : ∀ (ts : List Ty) (m : Nat) (acc : List Ty) (rest : List UInt8), ts ≠ [] → ts.length < m → (∀ t, t ∈ ts → BackI t) → (txtSep true ts ++ (e :: rest)).length < n → itTypes (itOne n) e m acc (txtSep true ts ++ (e :: rest)) = some (acc ++ ts, rest)
  | [], _, _, _, h, _, _, _ => absurd rfl h
  | _ :: _, 0, _, _, _, h, _, _ => by omega
  | [t], m + 1, acc, rest, _, _, hC, hn => by
    have h1 := hC t (by simp) n (e :: rest) (by simpa [txtSep] using hn) (fun c hc => by simp at hc; subst hc; rcases he with h | h <;> simp [h])
    simp only [txtSep, if_true, List.nil_append, List.append_nil, itTypes, h1]
  | t :: u :: l, m + 1, acc, rest, _, hm, hC, hn => by
    have h3 : txtSep true (t :: u :: l) ++ (e :: rest) = txtT t ++ ([44, 32] ++ (txtSep true (u :: l) ++ (e :: rest))) := by simp [txtSep]
    rw [h3] at hn ⊢
    have h1 := hC t (by simp) n ([44, 32] ++ (txtSep true (u :: l) ++ (e :: rest))) hn (fun c hc => by simp at hc; simp [← hc])
    have h2 := itTypes_back he (u :: l) m (acc ++ [t]) rest (by simp) (by simpa using hm) (fun v hv => hC v (by simp [hv])) (n := n) (by simp only [List.length_append] at hn ⊢; omega)
    have h4 : ¬ (44 : UInt8) = e := by rcases he with h | h <;> rw [h] <;> decide
    have h5 : takeL [44, 32] (44 :: 32 :: (txtSep true (u :: l) ++ (e :: rest))) = some (txtSep true (u :: l) ++ (e :: rest)) := take_pre [44, 32] _
    simp only [List.cons_append, List.nil_append] at h1 ⊢
    simp only [itTypes, h1]
    rw [if_neg h4]
    simp only [h5, h2]
    simp
theorem wordJ_back {n : Nat} (t : Ty) (w : List UInt8) (ts : List Ty) (rest : List UInt8) (hw : ∀ c, c ∈ w → isW c = true) (ha : ∃ a l, w = a :: l ∧ a ≠ 36 ∧ a ≠ 63) (hC : ∀ t, t ∈ ts → BackI t) (hB : ∀ t, t ∈ ts → Begins t) (hN : nomT w ts = t) (hr : StopD rest)
    (hn : ((w ++ if ts.isEmpty then [] else 60 :: (txtSep true ts ++ [62])) ++ rest).length ≤ n) :
    itAtom (itOne n) ((w ++ if ts.isEmpty then [] else 60 :: (txtSep true ts ++ [62])) ++ rest) = some (t, rest) := by
  obtain ⟨a, l, rfl, h1, h2⟩ := ha
  cases ts with
  | nil =>
    have hW := word_stop hw hr.w
    have h3 : takeL [36] (a :: l ++ rest) = none := take_ne (Ne.symm h1)
    have h4 : takeL [63] (a :: l ++ rest) = none := take_ne (Ne.symm h2)
    have h5 : takeL [60] rest = none := by
      cases rest with
      | nil => exact take_nil
      | cons c r => exact take_ne fun e => by subst e; rcases hr 60 (by simp) with h | h | h | h <;> cases h
    simp only [List.isEmpty_nil, if_true, List.append_nil, itAtom, h3, h4, hW.1, hW.2, h5, hN]
  | cons u us =>
    have hW := word_stop (s := 60 :: (txtSep true (u :: us) ++ ([62] ++ rest))) hw (fun c hc => by simp at hc; rw [← hc]; decide)
    have he : ((a :: l) ++ if (u :: us).isEmpty then [] else 60 :: (txtSep true (u :: us) ++ [62])) ++ rest = (a :: l) ++ (60 :: (txtSep true (u :: us) ++ ([62] ++ rest))) := by simp
    rw [he] at hn ⊢
    have h3 : takeL [36] ((a :: l) ++ (60 :: (txtSep true (u :: us) ++ ([62] ++ rest)))) = none := take_ne (Ne.symm h1)
    have h4 : takeL [63] ((a :: l) ++ (60 :: (txtSep true (u :: us) ++ ([62] ++ rest)))) = none := take_ne (Ne.symm h2)
    have h5 : takeL [60] (60 :: (txtSep true (u :: us) ++ ([62] ++ rest))) = some (txtSep true (u :: us) ++ ([62] ++ rest)) := take_pre [60] _
    have hc := sep_cnt (u :: us) true hB
    have h6 := itTypes_back (n := n) (e := 62) (Or.inl rfl) (u :: us) ((txtSep true (u :: us) ++ (62 :: rest)).length + 1) [] rest (by simp) (by rw [List.length_append]; omega) hC (by simp only [List.length_append, List.length_cons, List.length_nil] at hn ⊢; omega)
    have e6 : [62] ++ rest = 62 :: rest := rfl
    rw [e6] at h5 h3 h4 hW ⊢
    simp only [itAtom, h3, h4, hW.1, hW.2, h5, h6, List.nil_append, hN]
theorem wordJ_all {t : Ty} {w : List UInt8} {ts : List Ty} (hx : txtT t = w ++ if ts.isEmpty then [] else 60 :: (txtSep true ts ++ [62])) (hw : ∀ c, c ∈ w → isW c = true) (ha : ∃ a l, w = a :: l ∧ 65 ≤ a.toNat ∧ a.toNat ≤ 90) (hC : ∀ t, t ∈ ts → BackI t) (hB : ∀ t, t ∈ ts → Begins t) (hN : nomT w ts = t) : BackJ t := by
  obtain ⟨a, l, rfl, h65, h90⟩ := ha
  have hc := cap_ne ⟨h65, h90⟩
  intro n rest hn hr
  rw [hx] at hn ⊢
  exact ⟨t, rest, wordJ_back t (a :: l) ts rest hw ⟨a, l, rfl, hc.2.2.2.2.1, hc.2.2.2.2.2⟩ hC hB hN hr hn, Nat.le_refl _, fun m h => ⟨m, h, rfl⟩⟩
theorem backI_of {t : Ty} (hB : Begins t) (h9 : t.kind ≠ 9) (h10 : t.kind ≠ 10) (hR : BackJ t) : BackI t := fun n rest hn hr => by
  obtain ⟨a, l, hx, -, -, hne⟩ := hB
  obtain ⟨g1, g2⟩ := hne h9 h10
  match n, hn with
  | 0, hn => omega
  | n + 1, hn =>
    obtain ⟨b, s, h1, h2, h3⟩ := hR n rest (by omega) hr.d
    obtain ⟨n', h4, h5⟩ := h3 (s.length + 1) (by omega)
    have e1 : takeL [40] (txtT t ++ rest) = none := by rw [hx]; exact take_ne (Ne.symm g1)
    have e2 : takeL [97, 110, 121, 32] (txtT t ++ rest) = none := by rw [hx]; exact take_ne (Ne.symm g2)
    simp only [itOne, e1, e2, h1, h5, dots_stop hr]
def numB (n : Nat) : Bool := numI 0 (if n < 10 then [UInt8.ofNat (48 + n)] else [UInt8.ofNat (48 + n / 10), UInt8.ofNat (48 + n % 10)]) == (n, [])
theorem numI_stop {n : Nat} {s : List UInt8} (h : ∀ c, s.head? = some c → ¬ (48 ≤ c.toNat ∧ c.toNat ≤ 57)) : numI n s = (n, s) := by
  cases s with
  | nil => rfl
  | cons c s => simp only [numI]; rw [if_neg fun hh => h c (by simp) hh.1]
theorem numI_cat : ∀ (a : List UInt8) (n m : Nat) (s : List UInt8), numI n a = (m, []) → (∀ c, s.head? = some c → ¬ (48 ≤ c.toNat ∧ c.toNat ≤ 57)) → numI n (a ++ s) = (m, s)
  | [], n, m, s, h, hs => by
    simp [numI] at h
    subst h
    exact numI_stop hs
  | c :: a, n, m, s, h, hs => by
    simp only [numI] at h
    split at h
    · rename_i hc
      simp only [List.cons_append, numI]
      rw [if_pos hc]
      exact numI_cat a _ m s h hs
    · simp at h
theorem numB_all : ∀ n : Nat, n < 40 → numB n = true := by decide
theorem num_back {m : Nat} (h : m < 40) {rest : List UInt8} (hr : StopD rest) : numI 0 (Lib.decDigits m ++ rest) = (m, rest) := by
  refine numI_cat _ _ _ _ ?_ fun c hc => ?_
  · have hb := numB_all m h
    unfold numB at hb
    have he : Lib.decDigits m = if m < 10 then [UInt8.ofNat (48 + m)] else [UInt8.ofNat (48 + m / 10), UInt8.ofNat (48 + m % 10)] := by
      split
      · rename_i g; exact Lib.decDigits_one g
      · rename_i g; exact Lib.decDigits_two g (by omega)
    rw [he]
    simpa using hb
  · rcases hr c hc with rfl | rfl | rfl | rfl <;> decide
theorem txt_backI : ∀ t : Ty, t.all (nodeB true) = true → BackI t ∧ (t.kind ≠ 9 → t.kind ≠ 10 → BackJ t) := Ty.ind fun k s n ts ih ha => by
  have hBt := (txt_back _ ha).1
  simp only [Ty.all, Bool.and_eq_true] at ha
  have hch : ∀ u, u ∈ ts → BackI u ∧ (u.kind ≠ 9 → u.kind ≠ 10 → BackJ u) := fun u hu => ih u hu (alls_mem ha.2 u hu)
  have hB : ∀ u, u ∈ ts → Begins u := fun u hu => (txt_back u (alls_mem ha.2 u hu)).1
  have hC : ∀ u, u ∈ ts → BackI u := fun u hu => (hch u hu).1
  have hnd := ha.1
  simp only [nodeB, Bool.and_eq_true, Bool.or_eq_true, decide_eq_true_eq] at hnd
  obtain ⟨hn, hK⟩ := hnd
  have fin : k ≠ 9 → k ≠ 10 → BackJ (.node k s n ts) → BackI (.node k s n ts) ∧ ((Ty.node k s n ts).kind ≠ 9 → (Ty.node k s n ts).kind ≠ 10 → BackJ (.node k s n ts)) := fun h9 h10 h => ⟨backI_of hBt h9 h10 h, fun _ _ => h⟩
  by_cases h8 : k = 8
  · subst h8
    obtain rfl : n = 0 := hn.resolve_left (by decide)
    match ts, hK, hch with
    | [u], hK, hch =>
      simp [nodeK] at hK
      obtain ⟨g1, g2, g3⟩ := hK
      have hu := hch u (by simp)
      have hx : txtT (.node 8 s 0 [u]) = txtT u ++ (46 :: s.data.toList) := by rw [txtT, if_pos rfl]; simp [txtSep]
      refine fin (by decide) (by decide) fun m rest hm hr => ?_
      have e : txtT (.node 8 s 0 [u]) ++ rest = txtT u ++ (46 :: (s.data.toList ++ rest)) := by rw [hx]; simp
      rw [e] at hm ⊢
      obtain ⟨b, s1, h1, h2, h3⟩ := hu.2 g2 g1 m (46 :: (s.data.toList ++ rest)) hm (fun c hc => by simp at hc; simp [← hc])
      refine ⟨b, s1, h1, by simp at h2; omega, fun q hq => ?_⟩
      obtain ⟨n', h4, h5⟩ := h3 q hq
      match n', h4, h5 with
      | n' + 1, h4, h5 =>
        refine ⟨n', by simp at h4; omega, ?_⟩
        rw [h5, dots_step g3 hr]
    | [], hK, _ => simp [nodeK] at hK
    | _ :: _ :: _, hK, _ => simp [nodeK] at hK
  by_cases h10 : k = 10
  · subst h10
    obtain rfl : n = 0 := hn.resolve_left (by decide)
    rcases List.eq_nil_or_concat ts with rfl | ⟨us, v, rfl⟩
    · simp [nodeK] at hK
    · rw [List.concat_eq_append] at *
      simp [nodeK] at hK
      obtain rfl := empty_is (show s.toList.isEmpty = true by simpa using hK.2)
      have hx : txtT (.node 10 ⟨#[]⟩ 0 (us ++ [v])) = 40 :: (txtSep true us ++ ([41, 32, 45, 62, 32] ++ txtT v)) := by rw [txtT, if_neg (by decide), if_pos rfl, txtFn_eq]
      refine ⟨fun m rest hm hr => ?_, fun _ h => absurd rfl h⟩
      have e1 : txtT (.node 10 ⟨#[]⟩ 0 (us ++ [v])) ++ rest = [40] ++ (txtSep true us ++ (41 :: ([32, 45, 62, 32] ++ (txtT v ++ rest)))) := by rw [hx]; simp
      rw [e1] at hm ⊢
      match m, hm with
      | 0, hm => omega
      | m + 1, hm =>
        simp only [List.length_append, List.length_cons, List.length_nil] at hm
        have h2 := hC v (by simp) m rest (by rw [List.length_append]; omega) hr
        have h3 := take_pre [32, 45, 62, 32] (txtT v ++ rest)
        have h1 : itArgs (itOne m) (txtSep true us ++ (41 :: ([32, 45, 62, 32] ++ (txtT v ++ rest)))) = some (us, [32, 45, 62, 32] ++ (txtT v ++ rest)) := by
          unfold itArgs
          cases us with
          | nil =>
            have := take_pre [41] ([32, 45, 62, 32] ++ (txtT v ++ rest))
            simp only [List.cons_append, List.nil_append] at this
            simp only [txtSep, List.nil_append, List.cons_append, this]
          | cons u us =>
            have hne : takeL [41] (txtSep true (u :: us) ++ (41 :: ([32, 45, 62, 32] ++ (txtT v ++ rest)))) = none := by
              obtain ⟨a, l, h, g1, g2, -⟩ := hB u (by simp)
              simp only [txtSep, if_true, List.nil_append, h, List.cons_append]
              exact take_ne (Ne.symm g2)
            rw [hne]
            have hc := sep_cnt (u :: us) true fun u hu => hB u (by simp at hu ⊢; rcases hu with rfl | hu <;> simp [*])
            have := itTypes_back (n := m) (e := 41) (Or.inr rfl) (u :: us) ((txtSep true (u :: us) ++ (41 :: ([32, 45, 62, 32] ++ (txtT v ++ rest)))).length + 1) [] ([32, 45, 62, 32] ++ (txtT v ++ rest)) (by simp) (by rw [List.length_append]; omega) (fun u hu => hC u (by simp at hu ⊢; rcases hu with rfl | hu <;> simp [*])) (by simp only [List.length_append, List.length_cons, List.length_nil]; omega)
            simpa using this
        simp only [itOne, take_pre, itFn, h1, h2]
  by_cases h9 : k = 9
  · subst h9
    obtain rfl : n = 0 := hn.resolve_left (by decide)
    simp [nodeK] at hK
    obtain ⟨rfl, hs⟩ := hK
    have hx : txtT (.node 9 s 0 []) = [97, 110, 121, 32] ++ s.data.toList := by rw [txt_word (by decide) (by decide)]; simp [wordT]
    refine ⟨fun m rest hm hr => ?_, fun h => absurd rfl h⟩
    have e1 : txtT (.node 9 s 0 []) ++ rest = [97, 110, 121, 32] ++ (s.data.toList ++ rest) := by rw [hx]; simp
    rw [e1] at hm ⊢
    match m, hm with
    | 0, hm => omega
    | m + 1, hm =>
      have hW := word_stop (tname_word hs).1 hr.d.w
      have h4 : takeL [40] ([97, 110, 121, 32] ++ (s.data.toList ++ rest)) = none := take_ne (by decide)
      simp only [itOne, h4, take_pre, hW.1, hW.2, str_back]
  rcases kind_cases hK h8 h10 with rfl | rfl | rfl | rfl | rfl | rfl | rfl | rfl | rfl | rfl
  · obtain rfl : n = 0 := hn.resolve_left (by decide)
    simp [nodeK] at hK
    obtain ⟨rfl, hs⟩ := hK
    obtain rfl := empty_is (show s.toList.isEmpty = true by simpa using hs)
    exact fin h9 h10 (wordJ_all (txt_word h8 h10) (by simp [wordT]; decide) ⟨73, [110, 116], by simp [wordT], by decide, by decide⟩ hC hB (by simp [wordT, nomT]))
  · obtain rfl : n = 0 := hn.resolve_left (by decide)
    simp [nodeK] at hK
    obtain ⟨rfl, hs⟩ := hK
    obtain rfl := empty_is (show s.toList.isEmpty = true by simpa using hs)
    exact fin h9 h10 (wordJ_all (txt_word h8 h10) (by simp [wordT]; decide) ⟨66, [111, 111, 108], by simp [wordT], by decide, by decide⟩ hC hB (by simp [wordT, nomT]))
  · obtain rfl : n = 0 := hn.resolve_left (by decide)
    simp [nodeK] at hK
    obtain ⟨rfl, hs⟩ := hK
    obtain rfl := empty_is (show s.toList.isEmpty = true by simpa using hs)
    exact fin h9 h10 (wordJ_all (txt_word h8 h10) (by simp [wordT]; decide) ⟨84, [101, 120, 116], by simp [wordT], by decide, by decide⟩ hC hB (by simp [wordT, nomT]))
  · obtain rfl : n = 0 := hn.resolve_left (by decide)
    simp [nodeK] at hK
    obtain ⟨rfl, hs⟩ := hK
    obtain rfl := empty_is (show s.toList.isEmpty = true by simpa using hs)
    exact fin h9 h10 (wordJ_all (txt_word h8 h10) (by simp [wordT]; decide) ⟨85, [110, 105, 116], by simp [wordT], by decide, by decide⟩ hC hB (by simp [wordT, nomT]))
  · obtain rfl : n = 0 := hn.resolve_left (by decide)
    simp [nodeK] at hK
    obtain ⟨hl, hs⟩ := hK
    obtain rfl := empty_is (show s.toList.isEmpty = true by simpa using hs)
    exact fin h9 h10 (wordJ_all (txt_word h8 h10) (by simp [wordT]; decide) ⟨65, [114, 114, 97, 121], by simp [wordT], by decide, by decide⟩ hC hB (by simp [wordT, nomT, hl]))
  · obtain rfl : n = 0 := hn.resolve_left (by decide)
    simp [nodeK] at hK
    obtain ⟨hl, hs⟩ := hK
    obtain rfl := empty_is (show s.toList.isEmpty = true by simpa using hs)
    exact fin h9 h10 (wordJ_all (txt_word h8 h10) (by simp [wordT]; decide) ⟨87, [101, 97, 107], by simp [wordT], by decide, by decide⟩ hC hB (by simp [wordT, nomT, hl]))
  · obtain rfl : n = 0 := hn.resolve_left (by decide)
    have hK2 : (!(decide (ts.length = 0) && lit4 s || decide (ts.length = 1) && lit2 s)) = true ∧ tnameB s = true := by
      unfold nodeK at hK
      rw [if_neg (by decide), if_neg (by decide), if_pos rfl, Bool.and_eq_true, Bool.and_eq_true] at hK
      exact ⟨hK.1, hK.2.2⟩
    have hw := tname_word hK2.2
    exact fin h9 h10 (wordJ_all (w := s.data.toList) (by rw [txt_word h8 h10]; simp [wordT]) hw.1 hw.2 hC hB (nom_six hK2.1))
  · obtain rfl : n = 0 := hn.resolve_left (by decide)
    simp [nodeK] at hK
    obtain ⟨rfl, hs⟩ := hK
    have hx : txtT (.node 7 s 0 []) = [36] ++ s.data.toList := by rw [txt_word (by decide) (by decide)]; simp [wordT]
    refine fin h9 h10 fun m rest hm hr => ⟨_, rest, ?_, Nat.le_refl _, fun n h => ⟨n, h, rfl⟩⟩
    have hW := word_stop (tname_word hs).1 hr.w
    rw [hx, List.append_assoc]
    simp only [itAtom, take_pre, hW.1, hW.2, str_back]
  · exact absurd rfl h9
  · simp [nodeK] at hK
    obtain ⟨rfl, hs, hn0, hn1⟩ := hK
    obtain rfl := empty_is (show s.toList.isEmpty = true by simpa using hs)
    obtain ⟨m, rfl⟩ : ∃ m : Nat, n = (m : Int) := ⟨n.toNat, by omega⟩
    have hx : txtT (.node 12 ⟨#[]⟩ (m : Int) []) = [63] ++ Lib.decDigits m := by rw [txt_word (by decide) (by decide)]; simp [wordT]
    refine fin h9 h10 fun q rest hq hr => ⟨_, rest, ?_, Nat.le_refl _, fun n h => ⟨n, h, rfl⟩⟩
    have h4 : takeL [36] ([63] ++ (Lib.decDigits m ++ rest)) = none := take_ne (by decide)
    rw [hx, List.append_assoc]
    simp only [itAtom, h4, take_pre, num_back (show m < 40 by omega) hr]
/-- The document's reader reads back what is written. -/
theorem it_txt {t : Ty} (h : t.all (nodeB true) = true) {n : Nat} (hn : (txtT t).length < n) : itOne n (txtT t) = some (t, []) := by
  have := (txt_backI t h).1 n [] (by simpa using hn) (fun c hc => by simp at hc)
  simpa using this
end Go.Proofs.YtokmaehefenpmaaDoor
namespace Go.Proofs.YtokmaehefenpmaaDoor
open Go.RowKit Go.Proofs.YtokmaehefenpmaaDoor.Nm
set_option linter.unusedSimpArgs false
theorem strOf_ext (l : List UInt8) (i n : Nat) : (strOf l).extract i (i + n) = strOf ((l.drop i).take n) := by
  unfold strOf
  rw [ByteArray.extract_mk]
  simp
theorem take_is {w s s1 : List UInt8} (h : takeL w s = some s1) : s.take w.length = w ∧ w.length ≤ s.length := by
  have h2 := take_len h
  unfold takeL at h
  split at h
  · rename_i hp
    exact ⟨(List.prefix_iff_eq_take.1 (List.isPrefixOf_iff_prefix.1 hp)).symm, by omega⟩
  · cases h
theorem take_not {w s : List UInt8} (h : takeL w s = none) : s.take w.length ≠ w := by
  unfold takeL at h
  split at h
  · cases h
  · rename_i hp
    intro e
    exact hp (List.isPrefixOf_iff_prefix.2 (List.prefix_iff_eq_take.2 e.symm))
theorem str_back' (s : ByteArray) : strOf s.data.toList = s := by cases s; rfl
set_option maxHeartbeats 2000000 in
set_option maxRecDepth 100000 in
theorem begins_yes (l : List UInt8) (hl : l.length ≤ 10000) (i : Nat) (hi : i ≤ l.length) (t : ByteArray) (s1 : List UInt8) (h : takeL t.data.toList (l.drop i) = some s1) (w : World) :
    Calls Tryd.prog 90 #[.string (strOf l), .int .i64 (i : Int), .string t] w fun e w' => e = .returned (.bool true) ∧ w = w' := by
  obtain ⟨h1, h2⟩ := take_is h
  obtain ⟨s, hs⟩ : ∃ s, s = strOf l := ⟨_, rfl⟩
  have hsz : s.size = l.length := by rw [hs, strOf_size]
  have hts : t.size = t.data.toList.length := by simp
  have hd : (l.drop i).length = l.length - i := by simp
  have hle : i + t.size ≤ s.size := by omega
  have hex : s.extract i (i + t.size) = t := by rw [hs, strOf_ext, hts, h1, str_back']
  rw [← hs]
  have HE := Lib.hid hex
  have hs1 : s.size ≤ 10000 := by omega
  obtain ⟨j, hj⟩ : ∃ j, j = i + t.size := ⟨_, rfl⟩
  rw [← hj] at hex hle
  have hjw : IntKind.i64.wrap (j : Int) = (j : Int) := IntWalk.i64_in _ (by omega)
  have hjs : (i : Int) + (t.size : Int) = (j : Int) := by omega
  have hjI : (j : Int) ≤ (s.size : Int) := by omega
  have hijI : (i : Int) ≤ (j : Int) := by omega
  have hge : ((s.size : Int) - (i : Int) ≥ (t.size : Int)) := by omega
  have hgw : IntKind.i64.wrap ((s.size : Int) - (i : Int)) = (s.size : Int) - (i : Int) := IntWalk.i64_in _ (by omega)
  obtain ⟨x, hx⟩ : ∃ x, x = s.extract i j := ⟨_, rfl⟩
  have e1 : (x.toList == t.toList) = true := by rw [hx, hex]; exact beq_self_eq_true _
  have HX := Lib.hid hx
  clear hs h h1 h2 hts hd hl hi hex hsz hx hj
  go_enter Tryd.func90, Tryd.ntmps90
  go_upto_region 1 with (fail)
  apply wp_region_lit
  (with_reducible refine wl_k ?_ ?_); exact rfl; intro K hK; go_simp; refine hK _ ?_; clear hK K
  (with_reducible refine wl_k ?_ ?_); exact rfl; intro K hK; go_simp; refine hK _ ?_; clear hK K
  (with_reducible refine wl_k ?_ ?_); exact rfl; intro K hK; go_simp; refine hK _ ?_; clear hK K
  (with_reducible refine wl_k ?_ ?_); exact rfl; intro K hK; go_simp; refine hK _ ?_; clear hK K
  (with_reducible refine wl_k ?_ ?_); exact rfl; intro K hK; go_simp; refine hK _ ?_; clear hK K
  (with_reducible refine wl_k ?_ ?_); exact rfl; intro K hK; go_simp; refine hK _ ?_; clear hK K
  (with_reducible refine wl_k ?_ ?_); exact rfl; intro K hK; go_simp; refine hK _ ?_; clear hK K
  (with_reducible refine wl_k ?_ ?_); exact rfl; intro K hK; go_simp; refine hK _ ?_; clear hK K
  (with_reducible refine wl_k ?_ ?_); exact rfl; intro K hK; go_simp; refine hK _ ?_; clear hK K
  (with_reducible refine wl_k ?_ ?_); exact rfl; intro K hK; go_simp; refine hK _ ?_; clear hK K
  (with_reducible refine wl_k ?_ ?_); exact rfl; intro K hK; go_simp; refine hK _ ?_; clear hK K
  (with_reducible refine wl_k ?_ ?_); exact rfl; intro K hK; go_simp; refine hK _ ?_; clear hK K
  (with_reducible refine wl_k ?_ ?_); exact rfl; intro K hK; go_simp; refine hK _ ?_; clear hK K
  (with_reducible refine wl_k ?_ ?_); exact rfl; intro K hK; go_simp; refine hK _ ?_; clear hK K
  (with_reducible refine wl_k ?_ ?_); exact rfl; intro K hK; go_simp; refine hK _ ?_; clear hK K
  rw [← HX.out]
  (with_reducible refine wl_k ?_ ?_); exact rfl; intro K hK; go_simp; refine hK _ ?_; clear hK K
  (with_reducible refine wl_k ?_ ?_); exact rfl; intro K hK; go_simp; refine hK _ ?_; clear hK K
  (with_reducible refine wl_k ?_ ?_); exact rfl; intro K hK; go_simp; refine hK _ ?_; clear hK K
  (with_reducible refine wl_k ?_ ?_); exact rfl; intro K hK; go_simp; refine hK _ ?_; clear hK K
  go_wp2_with fail
  go_ret
  exact ⟨rfl, rfl⟩
set_option maxHeartbeats 2000000 in
set_option maxRecDepth 100000 in
theorem begins_no (l : List UInt8) (hl : l.length ≤ 10000) (i : Nat) (hi : i ≤ l.length) (t : ByteArray) (ht : t.size ≤ 10000) (h : takeL t.data.toList (l.drop i) = none) (w : World) :
    Calls Tryd.prog 90 #[.string (strOf l), .int .i64 (i : Int), .string t] w fun e w' => e = .returned (.bool false) ∧ w = w' := by
  have h1 := take_not h
  obtain ⟨s, hs⟩ : ∃ s, s = strOf l := ⟨_, rfl⟩
  have hsz : s.size = l.length := by rw [hs, strOf_size]
  have hts : t.size = t.data.toList.length := by simp
  have hex : s.extract i (i + t.size) ≠ t := by
    rw [hs, strOf_ext, hts]
    intro e
    refine h1 ?_
    have := congrArg (fun x => x.data.toList) e
    simpa [strOf] using this
  rw [← hs]
  have hs1 : s.size ≤ 10000 := by omega
  have his : i ≤ s.size := by omega
  have hgw : IntKind.i64.wrap ((s.size : Int) - (i : Int)) = (s.size : Int) - (i : Int) := IntWalk.i64_in _ (by omega)
  by_cases hle : i + t.size ≤ s.size
  · obtain ⟨j, hj⟩ : ∃ j, j = i + t.size := ⟨_, rfl⟩
    rw [← hj] at hex hle
    have hjw : IntKind.i64.wrap (j : Int) = (j : Int) := IntWalk.i64_in _ (by omega)
    have hjs : (i : Int) + (t.size : Int) = (j : Int) := by omega
    have hjI : (j : Int) ≤ (s.size : Int) := by omega
    have hijI : (i : Int) ≤ (j : Int) := by omega
    have hge : ((s.size : Int) - (i : Int) ≥ (t.size : Int)) := by omega
    obtain ⟨x, hx⟩ : ∃ x, x = s.extract i j := ⟨_, rfl⟩
    have e1 : (x.toList == t.toList) = false := beq_eq_false_iff_ne.2 fun e => hex (by
      rw [← hx]
      rw [ByteArray.toList_eq, ByteArray.toList_eq] at e
      rw [← str_back' x, ← str_back' t, e])
    have HX := Lib.hid hx
    clear hs h h1 hts hl hi hex hsz hx hj
    go_enter Tryd.func90, Tryd.ntmps90
    go_upto_region 1 with (fail)
    apply wp_region_lit
    (with_reducible refine wl_k ?_ ?_); exact rfl; intro K hK; go_simp; refine hK _ ?_; clear hK K
    (with_reducible refine wl_k ?_ ?_); exact rfl; intro K hK; go_simp; refine hK _ ?_; clear hK K
    (with_reducible refine wl_k ?_ ?_); exact rfl; intro K hK; go_simp; refine hK _ ?_; clear hK K
    (with_reducible refine wl_k ?_ ?_); exact rfl; intro K hK; go_simp; refine hK _ ?_; clear hK K
    (with_reducible refine wl_k ?_ ?_); exact rfl; intro K hK; go_simp; refine hK _ ?_; clear hK K
    (with_reducible refine wl_k ?_ ?_); exact rfl; intro K hK; go_simp; refine hK _ ?_; clear hK K
    (with_reducible refine wl_k ?_ ?_); exact rfl; intro K hK; go_simp; refine hK _ ?_; clear hK K
    (with_reducible refine wl_k ?_ ?_); exact rfl; intro K hK; go_simp; refine hK _ ?_; clear hK K
    (with_reducible refine wl_k ?_ ?_); exact rfl; intro K hK; go_simp; refine hK _ ?_; clear hK K
    (with_reducible refine wl_k ?_ ?_); exact rfl; intro K hK; go_simp; refine hK _ ?_; clear hK K
    (with_reducible refine wl_k ?_ ?_); exact rfl; intro K hK; go_simp; refine hK _ ?_; clear hK K
    (with_reducible refine wl_k ?_ ?_); exact rfl; intro K hK; go_simp; refine hK _ ?_; clear hK K
    (with_reducible refine wl_k ?_ ?_); exact rfl; intro K hK; go_simp; refine hK _ ?_; clear hK K
    (with_reducible refine wl_k ?_ ?_); exact rfl; intro K hK; go_simp; refine hK _ ?_; clear hK K
    (with_reducible refine wl_k ?_ ?_); exact rfl; intro K hK; go_simp; refine hK _ ?_; clear hK K
    rw [← HX.out]
    (with_reducible refine wl_k ?_ ?_); exact rfl; intro K hK; go_simp; refine hK _ ?_; clear hK K
    (with_reducible refine wl_k ?_ ?_); exact rfl; intro K hK; go_simp; refine hK _ ?_; clear hK K
    (with_reducible refine wl_k ?_ ?_); exact rfl; intro K hK; go_simp; refine hK _ ?_; clear hK K
    (with_reducible refine wl_k ?_ ?_); exact rfl; intro K hK; go_simp; refine hK _ ?_; clear hK K
    go_wp2_with fail
    go_ret
    exact ⟨rfl, rfl⟩
  · have hge : ¬ ((s.size : Int) - (i : Int) ≥ (t.size : Int)) := by omega
    clear hs h h1 hts hl hi hex hsz
    go_enter Tryd.func90, Tryd.ntmps90
    go_upto_region 1 with (fail)
    apply wp_region_lit
    (with_reducible refine wl_k ?_ ?_); exact rfl; intro K hK; go_simp; refine hK _ ?_; clear hK K
    (with_reducible refine wl_k ?_ ?_); exact rfl; intro K hK; go_simp; refine hK _ ?_; clear hK K
    (with_reducible refine wl_k ?_ ?_); exact rfl; intro K hK; go_simp; refine hK _ ?_; clear hK K
    (with_reducible refine wl_k ?_ ?_); exact rfl; intro K hK; go_simp; refine hK _ ?_; clear hK K
    (with_reducible refine wl_k ?_ ?_); exact rfl; intro K hK; go_simp; refine hK _ ?_; clear hK K
    (with_reducible refine wl_k ?_ ?_); exact rfl; intro K hK; go_simp; refine hK _ ?_; clear hK K
    (with_reducible refine wl_k ?_ ?_); exact rfl; intro K hK; go_simp; refine hK _ ?_; clear hK K
    (with_reducible refine wl_k ?_ ?_); exact rfl; intro K hK; go_simp; refine hK _ ?_; clear hK K
    (first | ((with_reducible refine wl_skipU ?_ ?_ ?_); exact rfl; exact rfl) | ((with_reducible refine wl_skip ?_ ?_); exact rfl; simp only [put_lit, List.set_cons_zero, List.set_cons_succ]))
    (first | ((with_reducible refine wl_skipU ?_ ?_ ?_); exact rfl; exact rfl) | ((with_reducible refine wl_skip ?_ ?_); exact rfl; simp only [put_lit, List.set_cons_zero, List.set_cons_succ]))
    (first | ((with_reducible refine wl_skipU ?_ ?_ ?_); exact rfl; exact rfl) | ((with_reducible refine wl_skip ?_ ?_); exact rfl; simp only [put_lit, List.set_cons_zero, List.set_cons_succ]))
    (first | ((with_reducible refine wl_skipU ?_ ?_ ?_); exact rfl; exact rfl) | ((with_reducible refine wl_skip ?_ ?_); exact rfl; simp only [put_lit, List.set_cons_zero, List.set_cons_succ]))
    (first | ((with_reducible refine wl_skipU ?_ ?_ ?_); exact rfl; exact rfl) | ((with_reducible refine wl_skip ?_ ?_); exact rfl; simp only [put_lit, List.set_cons_zero, List.set_cons_succ]))
    (first | ((with_reducible refine wl_skipU ?_ ?_ ?_); exact rfl; exact rfl) | ((with_reducible refine wl_skip ?_ ?_); exact rfl; simp only [put_lit, List.set_cons_zero, List.set_cons_succ]))
    (first | ((with_reducible refine wl_skipU ?_ ?_ ?_); exact rfl; exact rfl) | ((with_reducible refine wl_skip ?_ ?_); exact rfl; simp only [put_lit, List.set_cons_zero, List.set_cons_succ]))
    (first | ((with_reducible refine wl_skipU ?_ ?_ ?_); exact rfl; exact rfl) | ((with_reducible refine wl_skip ?_ ?_); exact rfl; simp only [put_lit, List.set_cons_zero, List.set_cons_succ]))
    (first | ((with_reducible refine wl_skipU ?_ ?_ ?_); exact rfl; exact rfl) | ((with_reducible refine wl_skip ?_ ?_); exact rfl; simp only [put_lit, List.set_cons_zero, List.set_cons_succ]))
    (with_reducible refine wl_k ?_ ?_); exact rfl; intro K hK; go_simp; refine hK _ ?_; clear hK K
    (with_reducible refine wl_k ?_ ?_); exact rfl; intro K hK; go_simp; refine hK _ ?_; clear hK K
    go_wp2_with fail
    go_ret
    exact ⟨rfl, rfl⟩
theorem tw_at {p : UInt8 → Bool} {l : List UInt8} {i j : Nat} (hij : i ≤ j) (hj : j ≤ l.length) (h1 : ∀ k c, i ≤ k → k < j → l[k]? = some c → p c = true) (h2 : ∀ c, l[j]? = some c → p c = false) : (l.drop i).takeWhile p = (l.drop i).take (j - i) ∧ (l.drop i).dropWhile p = l.drop j := by
  have := take_while_at (p := p) (l := l.drop i) (j := j - i) (fun k c hk hc => h1 (i + k) c (by omega) (by omega) (by rw [List.getElem?_drop] at hc; exact hc)) (by simp; omega) (fun c hc => h2 c (by rw [List.getElem?_drop, show i + (j - i) = j by omega] at hc; exact hc))
  refine ⟨this.1, ?_⟩
  rw [this.2, List.drop_drop, show i + (j - i) = j by omega]
/-- Where a name ends. -/
def nameEnd (l : List UInt8) (i : Nat) : Nat := l.length - ((l.drop i).dropWhile isW).length
theorem name_end {l : List UInt8} {i j : Nat} (hj : j ≤ l.length) (h : (l.drop i).dropWhile isW = l.drop j) : nameEnd l i = j := by
  unfold nameEnd; rw [h]; simp; omega
set_option maxHeartbeats 4000000 in
set_option maxRecDepth 100000 in
theorem name_any (l : List UInt8) (hl : l.length ≤ 10000) (i : Nat) (hi : i ≤ l.length) (w : World) :
    Calls Tryd.prog 92 #[.string (strOf l), .int .i64 (i : Int)] w fun e w' => e = .returned (.int .i64 (nameEnd l i : Int)) ∧ w = w' := by
  obtain ⟨s, hs⟩ : ∃ s, s = strOf l := ⟨_, rfl⟩
  have HS := Lib.hid hs
  have hsz : s.size = l.length := by rw [hs, strOf_size]
  have hs1 : s.size ≤ 10000 := by omega
  have his : i ≤ s.size := by omega
  have HSZ := Lib.hid hsz
  rw [← hs]
  clear hs hsz hl hi
  go_enter Tryd.func92, Tryd.ntmps92
  go_wp2_with fail
  go_loopw [1] (fun v wr => ∃ j : Nat, i ≤ j ∧ j ≤ s.size ∧ v = .int .i64 (j : Int) ∧ Hid (∀ (k : Nat) (c : UInt8), i ≤ k → k < j → l[k]? = some c → isW c = true) ∧ w = wr) (fun v _ => s.size - (intOf v).toNat)
  case atStart => exact ⟨i, by omega, by omega, rfl, Lib.hid (fun k c h1 h2 => by omega), rfl⟩
  case round =>
    obtain ⟨j, hij, hj, rfl, HJ, rfl⟩ := hrel
    go_upto_region 1 with (fail)
    by_cases hlt : j < s.size
    · have hltI : (j : Int) < (s.size : Int) := by omega
      have HL := Lib.hid (Letter_any (s[j].toNat : Int) w)
      have HD := Lib.hid (Digit_any (s[j].toNat : Int) w)
      have HG : Hid (l[j]? = some s[j]) := Lib.hid (by have := HS.out; subst this; exact strOf_get l hlt)
      obtain ⟨b1, hb1⟩ : ∃ b, b = letterB (s[j].toNat : Int) := ⟨_, rfl⟩
      obtain ⟨b2, hb2⟩ : ∃ b, b = digitB (s[j].toNat : Int) := ⟨_, rfl⟩
      have HQ : Hid (isW s[j] = (b1 || b2)) := Lib.hid (by rw [isW_okc, hb1, hb2]; rfl)
      rw [← hb1] at HL
      rw [← hb2] at HD
      have HR2 : Hid ((b1 || b2) = true → ∀ (k : Nat) (c : UInt8), i ≤ k → k < j + 1 → l[k]? = some c → isW c = true) := Lib.hid fun h k c hk1 hk2 hc => by
        rcases Nat.lt_or_ge k j with h3 | h3
        · exact HJ.out k c hk1 h3 hc
        · obtain rfl : k = j := by omega
          rw [HG.out] at hc; cases hc; rw [HQ.out]; exact h
      have HF : Hid ((b1 || b2) = false → nameEnd l i = j) := Lib.hid fun h => name_end (by rw [← HSZ.out]; exact hj) (tw_at hij (by rw [← HSZ.out]; exact hj) HJ.out (fun c hc => by rw [HG.out] at hc; cases hc; rw [HQ.out]; exact h)).2
      clear hb1 hb2 HQ HG
      apply wp_region_lit
      (with_reducible refine wl_k ?_ ?_); exact rfl; intro K hK; go_simp; refine hK _ ?_; clear hK K
      (with_reducible refine wl_k ?_ ?_); exact rfl; intro K hK; go_simp; refine hK _ ?_; clear hK K
      (with_reducible refine wl_k ?_ ?_); exact rfl; intro K hK; go_simp; refine hK _ ?_; clear hK K
      (with_reducible refine wl_k ?_ ?_); exact rfl; intro K hK; go_simp; refine hK _ ?_; clear hK K
      (with_reducible refine wl_k ?_ ?_); exact rfl; intro K hK; go_simp; refine hK _ ?_; clear hK K
      (with_reducible refine wl_k ?_ ?_); exact rfl; intro K hK; go_simp; refine hK _ ?_; clear hK K
      (with_reducible refine wl_k ?_ ?_); exact rfl; intro K hK; go_simp; refine hK _ ?_; clear hK K
      (with_reducible refine wl_k ?_ ?_); exact rfl; intro K hK; go_simp; refine hK _ ?_; clear hK K
      (with_reducible refine wl_ck ?_ ?_); exact rfl; intro K hK; go_simp; refine ⟨_, _, ⟨rfl, rfl⟩, hK _ _ ⟨_, HL.out, ?_⟩⟩; clear hK K; rintro e w4 ⟨rfl, rfl⟩; refine ⟨_, rfl, ?_⟩; simp only [put_lit, List.set_cons_zero, List.set_cons_succ]
      cases b1 with
      | true =>
        have HR3 := Lib.hid (HR2.out rfl)
        clear HL HD HR2 HF HJ
        (with_reducible refine wl_k ?_ ?_); exact rfl; intro K hK; go_simp; refine hK _ ?_; clear hK K
        (first | ((with_reducible refine wl_skipU ?_ ?_ ?_); exact rfl; exact rfl) | ((with_reducible refine wl_skip ?_ ?_); exact rfl; simp only [put_lit, List.set_cons_zero, List.set_cons_succ]))
        (first | ((with_reducible refine wl_skipU ?_ ?_ ?_); exact rfl; exact rfl) | ((with_reducible refine wl_skip ?_ ?_); exact rfl; simp only [put_lit, List.set_cons_zero, List.set_cons_succ]))
        (first | ((with_reducible refine wl_skipU ?_ ?_ ?_); exact rfl; exact rfl) | ((with_reducible refine wl_skip ?_ ?_); exact rfl; simp only [put_lit, List.set_cons_zero, List.set_cons_succ]))
        (first | ((with_reducible refine wl_skipU ?_ ?_ ?_); exact rfl; exact rfl) | ((with_reducible refine wl_skip ?_ ?_); exact rfl; simp only [put_lit, List.set_cons_zero, List.set_cons_succ]))
        (with_reducible refine wl_k ?_ ?_); exact rfl; intro K hK; go_simp; refine hK _ ?_; clear hK K
        (with_reducible refine wl_k ?_ ?_); exact rfl; intro K hK; go_simp; refine hK _ ?_; clear hK K
        go_wp2_with fail
        go_roundw
        case rel => exact ⟨j + 1, by omega, by omega, by go_num, HR3, trivial⟩
        case measure => simp [intOf]; omega
      | false =>
        (with_reducible refine wl_k ?_ ?_); exact rfl; intro K hK; go_simp; refine hK _ ?_; clear hK K
        (with_reducible refine wl_k ?_ ?_); exact rfl; intro K hK; go_simp; refine hK _ ?_; clear hK K
        (with_reducible refine wl_k ?_ ?_); exact rfl; intro K hK; go_simp; refine hK _ ?_; clear hK K
        (with_reducible refine wl_k ?_ ?_); exact rfl; intro K hK; go_simp; refine hK _ ?_; clear hK K
        (with_reducible refine wl_ck ?_ ?_); exact rfl; intro K hK; go_simp; refine ⟨_, _, ⟨rfl, rfl⟩, hK _ _ ⟨_, HD.out, ?_⟩⟩; clear hK K; rintro e w4 ⟨rfl, rfl⟩; refine ⟨_, rfl, ?_⟩; simp only [put_lit, List.set_cons_zero, List.set_cons_succ]
        cases b2 with
        | true =>
          have HR3 := Lib.hid (HR2.out rfl)
          clear HL HD HR2 HF HJ
          (with_reducible refine wl_k ?_ ?_); exact rfl; intro K hK; go_simp; refine hK _ ?_; clear hK K
          (with_reducible refine wl_k ?_ ?_); exact rfl; intro K hK; go_simp; refine hK _ ?_; clear hK K
          go_wp2_with fail
          go_roundw
          case rel => exact ⟨j + 1, by omega, by omega, by go_num, HR3, trivial⟩
          case measure => simp [intOf]; omega
        | false =>
          have HF2 := Lib.hid (HF.out rfl)
          clear HL HD HR2 HF HJ
          (with_reducible refine wl_k ?_ ?_); exact rfl; intro K hK; go_simp; refine hK _ ?_; clear hK K
          (with_reducible refine wl_k ?_ ?_); exact rfl; intro K hK; go_simp; refine hK _ ?_; clear hK K
          go_wp2_with fail
          go_ret
          exact ⟨by rw [HF2.out]; rfl, rfl⟩
    · have hltI : ¬ (j : Int) < (s.size : Int) := by omega
      have HF : Hid (nameEnd l i = j) := Lib.hid (name_end (by rw [← HSZ.out]; exact hj) (tw_at hij (by rw [← HSZ.out]; exact hj) HJ.out (fun c hc => by have := (List.getElem?_eq_some_iff.1 hc).1; have h2 := HSZ.out; omega)).2)
      clear HJ
      apply wp_region_lit
      (with_reducible refine wl_k ?_ ?_); exact rfl; intro K hK; go_simp; refine hK _ ?_; clear hK K
      (with_reducible refine wl_k ?_ ?_); exact rfl; intro K hK; go_simp; refine hK _ ?_; clear hK K
      (with_reducible refine wl_k ?_ ?_); exact rfl; intro K hK; go_simp; refine hK _ ?_; clear hK K
      (with_reducible refine wl_k ?_ ?_); exact rfl; intro K hK; go_simp; refine hK _ ?_; clear hK K
      (with_reducible refine wl_k ?_ ?_); exact rfl; intro K hK; go_simp; refine hK _ ?_; clear hK K
      (first | ((with_reducible refine wl_skipU ?_ ?_ ?_); exact rfl; exact rfl) | ((with_reducible refine wl_skip ?_ ?_); exact rfl; simp only [put_lit, List.set_cons_zero, List.set_cons_succ]))
      (first | ((with_reducible refine wl_skipU ?_ ?_ ?_); exact rfl; exact rfl) | ((with_reducible refine wl_skip ?_ ?_); exact rfl; simp only [put_lit, List.set_cons_zero, List.set_cons_succ]))
      (first | ((with_reducible refine wl_skipU ?_ ?_ ?_); exact rfl; exact rfl) | ((with_reducible refine wl_skip ?_ ?_); exact rfl; simp only [put_lit, List.set_cons_zero, List.set_cons_succ]))
      (first | ((with_reducible refine wl_skipU ?_ ?_ ?_); exact rfl; exact rfl) | ((with_reducible refine wl_skip ?_ ?_); exact rfl; simp only [put_lit, List.set_cons_zero, List.set_cons_succ]))
      (first | ((with_reducible refine wl_skipU ?_ ?_ ?_); exact rfl; exact rfl) | ((with_reducible refine wl_skip ?_ ?_); exact rfl; simp only [put_lit, List.set_cons_zero, List.set_cons_succ]))
      (first | ((with_reducible refine wl_skipU ?_ ?_ ?_); exact rfl; exact rfl) | ((with_reducible refine wl_skip ?_ ?_); exact rfl; simp only [put_lit, List.set_cons_zero, List.set_cons_succ]))
      (first | ((with_reducible refine wl_skipU ?_ ?_ ?_); exact rfl; exact rfl) | ((with_reducible refine wl_skip ?_ ?_); exact rfl; simp only [put_lit, List.set_cons_zero, List.set_cons_succ]))
      (first | ((with_reducible refine wl_skipU ?_ ?_ ?_); exact rfl; exact rfl) | ((with_reducible refine wl_skip ?_ ?_); exact rfl; simp only [put_lit, List.set_cons_zero, List.set_cons_succ]))
      (first | ((with_reducible refine wl_skipU ?_ ?_ ?_); exact rfl; exact rfl) | ((with_reducible refine wl_skip ?_ ?_); exact rfl; simp only [put_lit, List.set_cons_zero, List.set_cons_succ]))
      (first | ((with_reducible refine wl_skipU ?_ ?_ ?_); exact rfl; exact rfl) | ((with_reducible refine wl_skip ?_ ?_); exact rfl; simp only [put_lit, List.set_cons_zero, List.set_cons_succ]))
      (with_reducible refine wl_k ?_ ?_); exact rfl; intro K hK; go_simp; refine hK _ ?_; clear hK K
      go_wp2_with fail
      go_ret
      exact ⟨by rw [HF.out]; rfl, rfl⟩
end Go.Proofs.YtokmaehefenpmaaDoor
namespace Go.Proofs.YtokmaehefenpmaaDoor
open Go.RowKit Go.Proofs.YtokmaehefenpmaaDoor.Nm
set_option linter.unusedSimpArgs false
def RPost (r : Nat) (t : Ty) (l1 : List UInt8) (f : Bool) (w : World) (e : Ending) (w' : World) : Prop := ∃ row, e = .returned (.agg row) ∧ TyAt w' (fun b => w.heap.size ≤ b) t row ∧ Rs w' r l1 f ∧ Fr r r w w'
/-- The two error variables of strconv. -/
def Sent (w : World) : Prop := (∃ ev, w.cell? ⟨1, 0, none⟩ = some ev ∧ (ev = .nilIface ∨ ∃ te pe, ev = .iface te pe)) ∧ ∃ ev, w.cell? ⟨2, 0, none⟩ = some ev ∧ (ev = .nilIface ∨ ∃ te pe, ev = .iface te pe)
theorem Sent.lt {w : World} (h : Sent w) : 2 < w.heap.size := by
  obtain ⟨ev, h1, -⟩ := h.2
  exact Lib.lt_of_cell h1
theorem Sent.same {w w' : World} (h : Sent w) (h1 : w'.heap[1]? = w.heap[1]?) (h2 : w'.heap[2]? = w.heap[2]?) : Sent w' := by
  obtain ⟨⟨e1, a1, b1⟩, e2, a2, b2⟩ := h
  refine ⟨⟨e1, ?_, b1⟩, e2, ?_, b2⟩
  · rw [← a1]; simp only [World.cell?, h1]
  · rw [← a2]; simp only [World.cell?, h2]
theorem Sent.fr {w w' : World} {r : Nat} (h : Sent w) (hf : Fr r r w w') (hr : 2 < r) : Sent w' := by
  have := h.lt
  exact h.same (hf.keep 1 (by omega) (by omega) (by omega)) (hf.keep 2 (by omega) (by omega) (by omega))
theorem Sent.old {w w' : World} (h : Sent w) (hb : Below w.heap.size w w') : Sent w' := by
  have := h.lt
  exact h.same (hb.block 1 (by omega)) (hb.block 2 (by omega))
def RdC (left : Nat) : Prop := ∀ (w : World) (r : Nat) (l : List UInt8), l.length ≤ 10000 → Rs w r l false → 2 < r → Sent w → ∀ t l1 f, rdTyp left l = some (t, l1, f) → Calls Tryd.prog 63 #[.pointer (some ⟨r, 0, none⟩), .int .i64 (left : Int)] w (RPost r t l1 f w)
def LPost (r : Nat) (ts : List Ty) (l1 : List UInt8) (f : Bool) (w : World) (e : Ending) (w' : World) : Prop := ∃ A n c, e = .returned (.slice A n c) ∧ OwnT w' w.heap.size (.slice A n c) ts ∧ Rs w' r l1 f ∧ Fr r r w w'
def meas (r : Nat) (w : World) : Nat := match w.cell? ⟨r, 0, none⟩, w.cell? ⟨r, 1, none⟩ with
  | some (.string s), some (.bool f) => if f then 0 else s.size + 1
  | _, _ => 0
theorem Rs.meas {w : World} {r : Nat} {l : List UInt8} {f : Bool} (h : Rs w r l f) : meas r w = if f then 0 else l.length + 1 := by
  unfold YtokmaehefenpmaaDoor.meas
  rw [cell_of_row _ _ _ _ _ _ h, cell_of_row _ _ _ _ _ _ h]
  simp [strOf_size]
theorem OwnT.fr {w w' : World} {B r : Nat} {v : Value} {ts : List Ty} (h : OwnT w B v ts) (hr : r < B) (hf : Fr r r w w') : OwnT w' B v ts := h.same fun q hq hl => hf.keep q hl (by omega) (by omega)
set_option maxHeartbeats 4000000 in
set_option maxRecDepth 100000 in
theorem list_rd (left : Nat) (_hl2 : left ≤ 1000) (hR : RdC left) (e : ByteArray) (r : Nat) (l : List UInt8) (hlen : l.length ≤ 10000) (w : World) (h : Rs w r l false) (hr2 : 2 < r) (hsn : Sent w) (ts : List Ty) (l1 : List UInt8) (f : Bool) (hx : rdArgs (rdTyp left) e.data.toList l = some (ts, l1, f)) :
    Calls Tryd.prog 87 #[.pointer (some ⟨r, 0, none⟩), .string e, .int .i64 (left : Int)] w (LPost r ts l1 f w) := by
  unfold rdArgs at hx
  cases ht : takeL e.data.toList l with
  | some l2 =>
    rw [ht] at hx
    cases hx
    have HC := Lib.hid (take_some r e l l1 false w h ht)
    clear ht hR h
    go_enter Tryd.func87, Tryd.ntmps87
    go_upto_region 2 with (fail)
    apply wp_region_lit
    (with_reducible refine wl_k ?_ ?_); exact rfl; intro K hK; go_simp; refine hK _ ?_; clear hK K
    (with_reducible refine wl_k ?_ ?_); exact rfl; intro K hK; go_simp; refine hK _ ?_; clear hK K
    (with_reducible refine wl_ck ?_ ?_); exact rfl; intro K hK; go_simp; refine ⟨_, _, ⟨rfl, rfl⟩, hK _ _ ⟨_, HC.out, ?_⟩⟩; clear hK K; rintro e w3 ⟨rfl, hn, hf⟩; refine ⟨_, rfl, ?_⟩; simp only [put_lit, List.set_cons_zero, List.set_cons_succ]
    have HN := Lib.hid hn
    have HF := Lib.hid hf
    clear HC hn hf
    go_wp2_with fail
    go_ret
    exact ⟨_, _, _, rfl, OwnT.nil _ _, HN.out, HF.out⟩
  | none =>
    rw [ht] at hx
    simp only at hx
    have HX := Lib.hid hx
    have HC := Lib.hid (take_none r e l false w h ht)
    have HRD := Lib.hid hR
    have HR2 := Lib.hid hr2
    have HSN := Lib.hid hsn
    clear hr2 hsn
    have hrw := h.lt
    have HS0 := Lib.hid h
    clear ht hx hR h
    go_enter Tryd.func87, Tryd.ntmps87
    go_upto_region 2 with (fail)
    apply wp_region_lit
    (with_reducible refine wl_k ?_ ?_); exact rfl; intro K hK; go_simp; refine hK _ ?_; clear hK K
    (with_reducible refine wl_k ?_ ?_); exact rfl; intro K hK; go_simp; refine hK _ ?_; clear hK K
    (with_reducible refine wl_ck ?_ ?_); exact rfl; intro K hK; go_simp; refine ⟨_, _, ⟨rfl, rfl⟩, hK _ _ ⟨_, HC.out, ?_⟩⟩; clear hK K; rintro e w3 ⟨rfl, rfl⟩; refine ⟨_, rfl, ?_⟩; simp only [put_lit, List.set_cons_zero, List.set_cons_succ]
    clear HC
    go_wp2_with fail
    go_loopw [7] (fun v wr => ∃ (acc : List Ty) (s : List UInt8) (n : Nat) (g : Bool) (A' : Option Addr) (l' c' : Nat), v = .slice A' l' c' ∧ Hid (OwnT wr w.heap.size (.slice A' l' c') acc) ∧ Hid (Rs wr r s g) ∧ Hid (g = false → rdList (rdTyp left) e.data.toList n acc s = some (ts, l1, f)) ∧ Hid (g = true → (acc, s, true) = (ts, l1, f)) ∧ Hid (acc.length + s.length ≤ 10000) ∧ Hid (Fr r r w wr)) (fun _ wr => meas r wr)
    case atStart => exact ⟨[], l, _, false, none, 0, 0, rfl, Lib.hid (OwnT.nil _ _), HS0, Lib.hid (fun _ => HX.out), Lib.hid (fun h => by cases h), Lib.hid (by simpa using hlen), Lib.hid (Fr.of (Below.refl _ _))⟩
    case round =>
      obtain ⟨acc, s, n, g, A', l', c', rfl, HO, HS, HL1, HL2, HLN, HF⟩ := hrel
      have hs := HS.out
      go_upto_region 4 with (fail)
      cases g with
      | true =>
        have HE := Lib.hid (HL2.out rfl)
        apply wp_region_lit
        (with_reducible refine wl_k ?_ ?_); exact rfl; intro K hK; go_simp; refine hK _ ?_; clear hK K
        (with_reducible refine wl_k ?_ ?_); exact rfl; intro K hK; go_simp; refine hK _ ?_; clear hK K
        (with_reducible refine wl_k ?_ ?_); exact rfl; intro K hK; go_simp; refine hK _ ?_; clear hK K
        ((with_reducible apply wl_oneG); exact rfl; exact rfl; exact r1 hs)
        (with_reducible refine wl_k ?_ ?_); exact rfl; intro K hK; go_simp; refine hK _ ?_; clear hK K
        clear hs
        go_wp2_with fail
        go_ret
        obtain ⟨rfl, rfl, rfl⟩ : acc = ts ∧ s = l1 ∧ true = f := by have := HE.out; simpa using this
        exact ⟨_, _, _, rfl, HO.out, HS.out, HF.out⟩
      | false =>
        have hL := HL1.out rfl
        cases n with
        | zero => simp [rdList] at hL
        | succ n =>
        simp only [rdList] at hL
        cases hrd : rdTyp left s with
        | none => rw [hrd] at hL; cases hL
        | some q =>
        obtain ⟨t, s1, g1⟩ := q
        rw [hrd] at hL
        simp only at hL
        have HLL := Lib.hid hL
        have HT := Lib.hid (HRD.out wr r s (by have := HLN.out; omega) HS.out HR2.out (HSN.out.fr HF.out HR2.out) t s1 g1 hrd)
        have hle1 := rdTyp_len left _ _ _ _ hrd
        have HMS := Lib.hid (HS.out.meas)
        clear hrd hL HL1 HL2
        apply wp_region_lit
        (with_reducible refine wl_k ?_ ?_); exact rfl; intro K hK; go_simp; refine hK _ ?_; clear hK K
        (with_reducible refine wl_k ?_ ?_); exact rfl; intro K hK; go_simp; refine hK _ ?_; clear hK K
        (with_reducible refine wl_k ?_ ?_); exact rfl; intro K hK; go_simp; refine hK _ ?_; clear hK K
        ((with_reducible apply wl_oneG); exact rfl; exact rfl; exact r1 hs)
        (with_reducible refine wl_k ?_ ?_); exact rfl; intro K hK; go_simp; refine hK _ ?_; clear hK K
        clear hs HS
        have hwz := HF.out.size
        go_upto_region 5 with (fail)
        apply wp_region_lit
        (with_reducible refine wl_k ?_ ?_); exact rfl; intro K hK; go_simp; refine hK _ ?_; clear hK K
        (with_reducible refine wl_k ?_ ?_); exact rfl; intro K hK; go_simp; refine hK _ ?_; clear hK K
        (with_reducible refine wl_ck ?_ ?_); exact rfl; intro K hK; go_simp; refine ⟨_, _, ⟨rfl, rfl⟩, hK _ _ ⟨_, HT.out, ?_⟩⟩; clear hK K; rintro e w7 ⟨row7, rfl, hta7, hs7, hf7⟩; refine ⟨_, rfl, ?_⟩; simp only [put_lit, List.set_cons_zero, List.set_cons_succ]
        obtain ⟨k7, s7, n7, A7, l7, c7, ts7, hu7, rfl, -⟩ := hta7.parts
        have HA := Lib.hid (HO.out.apart hwz hta7)
        have HO7 := Lib.hid (HO.out.fr hrw hf7)
        have HF7 := Lib.hid (HF.out.trans hf7)
        have HS7 := Lib.hid hs7
        have hrw7 := hs7.lt
        have hsz7 := hf7.size
        have hz := Below.refl w7.heap.size w7
        clear hta7 hs7 hf7 HT hu7
        (with_reducible refine wl_all ?_); intro X1 q hbn hlq hq; replace hz := hz.trans (hbn.mono hz.size); clear hbn; simp only [put_lit, List.set_cons_zero, List.set_cons_succ]
        (with_reducible refine wl_put rfl rfl hq ?_); rw [put_noneA]; intro X2 hbx hsz hkx hnx; replace hz := hbx _ _ (by omega) hz; clear hq; have hq := hnx; clear hnx
        clear hbx hkx hsz
        clear HO HF
        go_upto_region 6 with (fail)
        apply wp_region_lit
        (with_reducible refine wl_k ?_ ?_); exact rfl; intro K hK; go_simp; refine hK _ ?_; clear hK K
        (first | ((with_reducible apply wl_oneG); exact rfl; exact rfl; first | exact f0 (by with_reducible assumption) | exact f1 (by with_reducible assumption) | exact f2 (by with_reducible assumption) | exact f3 (by with_reducible assumption) | with_reducible assumption | exact g22 (by with_reducible assumption) | exact g25 (by with_reducible assumption)) | ((with_reducible apply wl_rowG); exact rfl; exact rfl; first | with_reducible assumption | exact RowK.now (by with_reducible assumption) | exact f4 (by with_reducible assumption)))
        (with_reducible refine wl_bs rfl ?_); intro X5 q3 hbn hlq3 hq3; replace hz := hz.trans (hbn.mono hz.size); clear hbn; simp only [put_lit, List.set_cons_zero, List.set_cons_succ]
        refine wl_push rfl _ _ rfl rfl rfl (HO7.out.old hz) (HA.out.old hz) hq3 (by have := HLN.out; omega) (by have := hz.size; omega) ?_
        intro A9 l9 c9 w9 hown hk9 hbl
        have HLT := Lib.hid ((HO7.out.old hz).lt)
        have hzs := hz.size
        have HF9 : Hid (Fr r r w w9) := Lib.hid ⟨fun b hb h1 h2 => by
          have hb7 : b < w7.heap.size := by omega
          rw [hk9 b (by omega) (fun e => by have := (HLT.out b e).1; omega), hz.block b hb7, HF7.out.keep b hb h1 h2], fun B' w0 h1 h2 h3 h4 => hbl B' w0 (fun b e => by have := (HLT.out b e).1; omega) (by omega) ((HF7.out.bel B' w0 h1 h2 h3 h4).trans (hz.mono (by omega)))⟩
        have HS9 : Hid (Rs w9 r s1 g1) := Lib.hid (by
          have := HS7.out.old hz
          unfold Rs at this ⊢
          rw [hk9 r (by omega) (fun e => by have := (HLT.out r e).1; omega)]; exact this)
        have HO9 := Lib.hid hown
        clear hown hk9 hbl HLT hq3 hq
        (with_reducible refine wl_k ?_ ?_); exact rfl; intro K hK; go_simp; refine hK _ ?_; clear hK K
        clear hz HO7 HA HF7 HS7
        cases hcm : takeL [44, 32] s1 with
        | some s2 =>
          have hcl := take_len hcm
          have HCM := Lib.hid (take_some r ⟨#[44, 32]⟩ s1 s2 g1 w9 HS9.out hcm)
          have HL3 : Hid ((if g1 then some (acc ++ [t], s2, true) else rdList (rdTyp left) e.data.toList n (acc ++ [t]) s2) = some (ts, l1, f)) := Lib.hid (by have := HLL.out; rw [hcm] at this; exact this)
          clear hcm HLL
          go_upto_region 7 with (fail)
          apply wp_region_lit
          (with_reducible refine wl_k ?_ ?_); exact rfl; intro K hK; go_simp; refine hK _ ?_; clear hK K
          (with_reducible refine wl_ck ?_ ?_); exact rfl; intro K hK; go_simp; refine ⟨_, _, ⟨rfl, rfl⟩, hK _ _ ⟨_, HCM.out, ?_⟩⟩; clear hK K; rintro e w10 ⟨rfl, hs10, hf10⟩; refine ⟨_, rfl, ?_⟩; simp only [put_lit, List.set_cons_zero, List.set_cons_succ]
          have HS10 := Lib.hid hs10
          have HF10 := Lib.hid (HF9.out.trans hf10)
          have HO10 := Lib.hid (HO9.out.fr hrw hf10)
          clear hs10 hf10
          (with_reducible refine wl_k ?_ ?_); exact rfl; intro K hK; go_simp; refine hK _ ?_; clear hK K
          clear HCM HS9 HF9 HO9
          have HM10 := Lib.hid HS10.out.meas
          go_wp2_with fail
          go_roundw
          case rel => exact ⟨acc ++ [t], s2, n, g1, _, _, _, rfl, HO10, HS10, Lib.hid (fun h => by have := HL3.out; rw [h] at this; exact this), Lib.hid (fun h => by have := HL3.out; rw [h] at this; exact Option.some.inj this), Lib.hid (by have := HLN.out; simp at hcl ⊢; omega), HF10⟩
          case measure =>
            rw [HMS.out, HM10.out]
            simp at hcl ⊢
            split <;> omega
        | none =>
          have HCM := Lib.hid (take_none r ⟨#[44, 32]⟩ s1 g1 w9 HS9.out hcm)
          have hL3 := HLL.out
          rw [hcm] at hL3
          clear hcm HLL
          cases hce : takeL e.data.toList s1 with
          | some s3 =>
            have HW := Lib.hid (want_some r e s1 s3 g1 w9 HS9.out hce)
            rw [hce] at hL3
            simp only [Option.some.injEq, Prod.mk.injEq] at hL3
            obtain ⟨rfl, rfl, rfl⟩ := hL3
            clear hce
            go_upto_region 7 with (fail)
            apply wp_region_lit
            (with_reducible refine wl_k ?_ ?_); exact rfl; intro K hK; go_simp; refine hK _ ?_; clear hK K
            (with_reducible refine wl_ck ?_ ?_); exact rfl; intro K hK; go_simp; refine ⟨_, _, ⟨rfl, rfl⟩, hK _ _ ⟨_, HCM.out, ?_⟩⟩; clear hK K; rintro e w10 ⟨rfl, rfl⟩; refine ⟨_, rfl, ?_⟩; simp only [put_lit, List.set_cons_zero, List.set_cons_succ]
            (with_reducible refine wl_k ?_ ?_); exact rfl; intro K hK; go_simp; refine hK _ ?_; clear hK K
            clear HCM HS9
            go_upto_region 8 with (fail)
            apply wp_region_lit
            (with_reducible refine wl_k ?_ ?_); exact rfl; intro K hK; go_simp; refine hK _ ?_; clear hK K
            (with_reducible refine wl_k ?_ ?_); exact rfl; intro K hK; go_simp; refine hK _ ?_; clear hK K
            (with_reducible refine wl_ck ?_ ?_); exact rfl; intro K hK; go_simp; refine ⟨_, _, ⟨rfl, rfl⟩, hK _ _ ⟨_, HW.out, ?_⟩⟩; clear hK K; rintro e w11 ⟨rfl, hs11, hf11⟩; refine ⟨_, rfl, ?_⟩; simp only [put_lit, List.set_cons_zero, List.set_cons_succ]
            have HS11 := Lib.hid hs11
            have HF11 := Lib.hid (HF9.out.trans hf11)
            have HO11 := Lib.hid (HO9.out.fr hrw hf11)
            clear hs11 hf11
            clear HW HF9 HO9
            go_wp2_with fail
            go_ret
            exact ⟨_, _, _, rfl, HO11.out, HS11.out, HF11.out⟩
          | none =>
            have HW := Lib.hid (want_none r e s1 g1 w9 HS9.out hce)
            rw [hce] at hL3
            simp only [Option.some.injEq, Prod.mk.injEq] at hL3
            obtain ⟨rfl, rfl, rfl⟩ := hL3
            clear hce
            go_upto_region 7 with (fail)
            apply wp_region_lit
            (with_reducible refine wl_k ?_ ?_); exact rfl; intro K hK; go_simp; refine hK _ ?_; clear hK K
            (with_reducible refine wl_ck ?_ ?_); exact rfl; intro K hK; go_simp; refine ⟨_, _, ⟨rfl, rfl⟩, hK _ _ ⟨_, HCM.out, ?_⟩⟩; clear hK K; rintro e w10 ⟨rfl, rfl⟩; refine ⟨_, rfl, ?_⟩; simp only [put_lit, List.set_cons_zero, List.set_cons_succ]
            (with_reducible refine wl_k ?_ ?_); exact rfl; intro K hK; go_simp; refine hK _ ?_; clear hK K
            clear HCM HS9
            go_upto_region 8 with (fail)
            apply wp_region_lit
            (with_reducible refine wl_k ?_ ?_); exact rfl; intro K hK; go_simp; refine hK _ ?_; clear hK K
            (with_reducible refine wl_k ?_ ?_); exact rfl; intro K hK; go_simp; refine hK _ ?_; clear hK K
            (with_reducible refine wl_ck ?_ ?_); exact rfl; intro K hK; go_simp; refine ⟨_, _, ⟨rfl, rfl⟩, hK _ _ ⟨_, HW.out, ?_⟩⟩; clear hK K; rintro e w11 ⟨rfl, hs11, hf11⟩; refine ⟨_, rfl, ?_⟩; simp only [put_lit, List.set_cons_zero, List.set_cons_succ]
            have HS11 := Lib.hid hs11
            have HF11 := Lib.hid (HF9.out.trans hf11)
            have HO11 := Lib.hid (HO9.out.fr hrw hf11)
            clear hs11 hf11
            clear HW HF9 HO9
            go_wp2_with fail
            go_ret
            exact ⟨_, _, _, rfl, HO11.out, HS11.out, HF11.out⟩
end Go.Proofs.YtokmaehefenpmaaDoor
namespace Go.Proofs.YtokmaehefenpmaaDoor
open Go.RowKit Go.Proofs.YtokmaehefenpmaaDoor.Nm
set_option linter.unusedSimpArgs false
set_option maxRecDepth 10000
theorem u113 : Tryd.prog.underlying 113 = some (.map 9 3) := by kernel_rfl
theorem run_ins113 (r : Nat) (es : Array MapEntry) (clock : Nat) (k : ByteArray) (v : Value) (w : World) (hb : w.heap[r]? = some (.map es clock)) (hf : Instr.findNow .string (.string k) es.toList 0 = some none) :
    (Instr.mapUpdate 113 (.map (some r)) (.string k) v).run Tryd.prog w = .ok () { w with heap := w.heap.setIfInBounds r (.map (es.push { key := .string k, val := v, born := clock }) (clock + 1)) } := by
  unfold Instr.mapUpdate
  simp only [Sem.run_bind, run_underlying u113, Result.andThen, MapKept.run_getObj_map hb, MapKept.run_checkKey u9 (k := .string k) trivial false 9999, MapKept.run_findKey u9 hf, MapKept.run_setObj_map _ hb]
def kInt : ByteArray := ⟨#[73, 110, 116]⟩
def kBool : ByteArray := ⟨#[66, 111, 111, 108]⟩
def kText : ByteArray := ⟨#[84, 101, 120, 116]⟩
def kUnit : ByteArray := ⟨#[85, 110, 105, 116]⟩
def four : Array MapEntry := #[⟨.string kInt, .int .i64 1, 0⟩, ⟨.string kBool, .int .i64 2, 1⟩, ⟨.string kText, .int .i64 3, 2⟩, ⟨.string kUnit, .int .i64 4, 3⟩]
theorem run_hit113 {r : Nat} {es : Array MapEntry} {c : Nat} {k : ByteArray} {m : Nat} {v : Value} (w : World) (hb : w.heap[r]? = some (.map es c)) (hf : Instr.findNow .string (.string k) es.toList 0 = some (some (m, v))) : (Instr.lookup 113 (.map (some r)) (.string k) true).run Tryd.prog w = .ok (.tuple #[v, .bool true]) w := by
  unfold Instr.lookup
  simp [Sem.run_bind, run_underlying u113, Result.andThen, MapKept.run_getObj_map hb, MapKept.run_checkKey u9 (k := .string k) trivial _ 9999, MapKept.run_findKey u9 hf]
theorem run_miss113 {r : Nat} {es : Array MapEntry} {c : Nat} {k : ByteArray} (w : World) (hb : w.heap[r]? = some (.map es c)) (hf : Instr.findNow .string (.string k) es.toList 0 = some none) : (Instr.lookup 113 (.map (some r)) (.string k) true).run Tryd.prog w = .ok (.tuple #[.int .i64 0, .bool false]) w := by
  unfold Instr.lookup
  have := Tryd.zeroValue3
  simp [Sem.run_bind, run_underlying u113, Result.andThen, MapKept.run_getObj_map hb, MapKept.run_checkKey u9 (k := .string k) trivial _ 9999, MapKept.run_findKey u9 hf, this]
theorem ex_hit113 {ev : Operand → Value} {o : Oper} {w : World} (x y : Operand) (ho : o.op = .lookup 113 x y true) {r : Nat} {es : Array MapEntry} {c : Nat} {k : ByteArray} {m : Nat} {v : Value} (hx : ev x = .map (some r)) (hy : ev y = .string k) (hb : w.heap[r]? = some (.map es c)) (hf : Instr.findNow .string (.string k) es.toList 0 = some (some (m, v))) :
    (execOp ev o).run Tryd.prog w = .ok (.value (.tuple #[v, .bool true])) w := by
  unfold execOp
  simp [ho, hx, hy, run_hit113 w hb hf, Result.andThen]
theorem ex_miss113 {ev : Operand → Value} {o : Oper} {w : World} (x y : Operand) (ho : o.op = .lookup 113 x y true) {r : Nat} {es : Array MapEntry} {c : Nat} {k : ByteArray} (hx : ev x = .map (some r)) (hy : ev y = .string k) (hb : w.heap[r]? = some (.map es c)) (hf : Instr.findNow .string (.string k) es.toList 0 = some none) :
    (execOp ev o).run Tryd.prog w = .ok (.value (.tuple #[.int .i64 0, .bool false])) w := by
  unfold execOp
  simp [ho, hx, hy, run_miss113 w hb hf, Result.andThen]
theorem ba_ne {a b : ByteArray} (h : a ≠ b) : (a == b) = false := by
  cases a with | mk x => cases b with | mk y =>
  have h2 : x ≠ y := fun e => h (by rw [e])
  have : (x == y) = false := beq_eq_false_iff_ne.2 h2
  exact this
theorem four_miss {k : ByteArray} (h1 : k ≠ kInt) (h2 : k ≠ kBool) (h3 : k ≠ kText) (h4 : k ≠ kUnit) : Instr.findNow .string (.string k) four.toList 0 = some none := by
  simp [four, Instr.findNow, Instr.sameNow, ba_ne h1, ba_ne h2, ba_ne h3, ba_ne h4]
section
variable {ops : Array Oper} {rest : List Oper} {dst : Option Tmp} {ty' : TypeId} {x y z : Operand} {pos : String} {after : Array Edge} {a : Act} {w : World} {Q : Exit → Act → World → Prop}
theorem wl_mm113 (h : ∀ W p, Below w.heap.size w W → w.heap.size ≤ p → W.heap[p]? = some (.map #[] 0) → wpList Tryd.prog ops Q rest (a.put dst (.map (some p))) W) :
    wpList Tryd.prog ops Q (⟨dst, .makeMap 113 none, ty', pos, after, none⟩ :: rest) a w :=
  wl_w rfl (by unfold execOp; simp [run_makeMap, Result.andThen]) (h _ _ ((Below.refl _ w).alloc (Nat.le_refl _) _) (Nat.le_refl _) (ha_new rfl))
theorem wl_ins113 {r : Nat} {es : Array MapEntry} {c : Nat} {k : ByteArray} {v : Value} (hx : a.eval x = .map (some r)) (hy : a.eval y = .string k) (hz : a.eval z = v) (hb : w.heap[r]? = some (.map es c)) (hf : Instr.findNow .string (.string k) es.toList 0 = some none)
    (h : ∀ W, (∀ B w0, B ≤ r → Below B w0 w → Below B w0 W) → (∀ g, g ≠ r → W.heap[g]? = w.heap[g]?) → W.heap.size = w.heap.size → W.heap[r]? = some (.map (es.push { key := .string k, val := v, born := c }) (c + 1)) → wpList Tryd.prog ops Q rest (a.put none undef) W) :
    wpList Tryd.prog ops Q (⟨none, .insert 113 x y z, ty', pos, after, none⟩ :: rest) a w := by
  obtain ⟨g1, g2⟩ := MapKept.heap_set (o' := .map (es.push { key := .string k, val := v, born := c }) (c + 1)) hb
  refine wpList_plain rfl fun K hK => ?_
  unfold Oper.wp execOp
  simp only [hx, hy, hz, run_ins113 r es c k v w hb hf, Sem.run_bind, Sem.run_pure, Result.andThen_ok]
  exact hK _ _ (h _ (fun B w0 hB h0 => ⟨h0.os, h0.tape, h0.output, by simpa using h0.size, fun b hb2 => by rw [g2 b (by omega)]; exact h0.block b hb2⟩) g2 (by simp) g1)
end
end Go.Proofs.YtokmaehefenpmaaDoor
namespace Go.Proofs.YtokmaehefenpmaaDoor
open Go.RowKit Go.Proofs.YtokmaehefenpmaaDoor.Nm
set_option linter.unusedSimpArgs false
theorem info3c : (Tryd.prog.info? 3).map (·.size) = some 1 := by kernel_rfl
section
variable {ops : Array Oper} {rest : List Oper} {dst : Option Tmp} {ty ty' : TypeId} {x y : Operand} {pos : String} {after : Array Edge} {a : Act} {w : World} {Q : Exit → Act → World → Prop} {p : Nat} {k : Int} {s : ByteArray} {n : Int} {A : Option Addr} {l c : Nat}
theorem wl_putK {k' : Int} (hx : a.eval x = .pointer (some ⟨p, 0, none⟩)) (hy : a.eval y = .int .i64 k') (hp : w.heap[p]? = some (.cells (cell4 k s n A l c) 24 (0, 0)))
    (h : ∀ W, (∀ B w0, B ≤ p → Below B w0 w → Below B w0 W) → W.heap.size = w.heap.size → (∀ g, g ≠ p → W.heap[g]? = w.heap[g]?) → W.heap[p]? = some (.cells (cell4 k' s n A l c) 24 (0, 0)) → wpList Tryd.prog ops Q rest (a.put none undef) W) :
    wpList Tryd.prog ops Q (⟨none, .store 3 x y, ty', pos, after, none⟩ :: rest) a w := by
  refine wl_storeC rfl 3 x y rfl p 0 _ hx hy info3c rfl (by rw [cell_of_row _ _ _ _ _ _ hp]; rfl) (by unfold World.frozen?; rw [hp]; rfl) ?_
  exact h _ (fun B w0 hB hb => hb.setCell hB _) (by simp [World.setCell]) (fun g hg => heap_setCell_other _ _ _ _ hg) (by rw [hs_new hp]; rfl)
theorem wl_putN {s' : ByteArray} (hx : a.eval x = .pointer (some ⟨p, 1, none⟩)) (hy : a.eval y = .string s') (hp : w.heap[p]? = some (.cells (cell4 k s n A l c) 24 (0, 0)))
    (h : ∀ W, (∀ B w0, B ≤ p → Below B w0 w → Below B w0 W) → W.heap.size = w.heap.size → (∀ g, g ≠ p → W.heap[g]? = w.heap[g]?) → W.heap[p]? = some (.cells (cell4 k s' n A l c) 24 (0, 0)) → wpList Tryd.prog ops Q rest (a.put none undef) W) :
    wpList Tryd.prog ops Q (⟨none, .store 9 x y, ty', pos, after, none⟩ :: rest) a w := by
  refine wl_storeC rfl 9 x y rfl p 1 _ hx hy info9c rfl (by rw [cell_of_row _ _ _ _ _ _ hp]; rfl) (by unfold World.frozen?; rw [hp]; rfl) ?_
  exact h _ (fun B w0 hB hb => hb.setCell hB _) (by simp [World.setCell]) (fun g hg => heap_setCell_other _ _ _ _ hg) (by rw [hs_new hp]; rfl)
end
theorem built24z : Tryd.prog.built 24 [] = some (cell4 0 ⟨#[]⟩ 0 none 0 0) := by kernel_rfl
theorem Fr.put {r p : Nat} {w w1 w2 : World} (h : Fr r r w w1) (hp : w.heap.size ≤ p) (hr : r < w.heap.size) (hb : ∀ B w0, B ≤ p → Below B w0 w1 → Below B w0 w2) (hk : ∀ g, g ≠ p → w2.heap[g]? = w1.heap[g]?) : Fr r r w w2 :=
  ⟨fun b hlt h1 h2 => by rw [hk b (by omega), h.keep b hlt h1 h2], fun B w0 h1 h2 h3 h4 => hb B w0 (by omega) (h.bel B w0 h1 h2 h3 h4)⟩
theorem Rs.put {w w2 : World} {r p : Nat} {l : List UInt8} {f : Bool} (h : Rs w r l f) (hr : r ≠ p) (hk : ∀ g, g ≠ p → w2.heap[g]? = w.heap[g]?) : Rs w2 r l f := by unfold Rs at *; rw [hk r hr]; exact h
theorem zero_tree (w : World) (D : Nat → Prop) : TyAt w D zeroTy (cell4 0 ⟨#[]⟩ 0 none 0 0) := TyAt.of (by rfl) (by rfl) (Nat.zero_le _) (TysAt.nil w D)
set_option maxHeartbeats 2000000 in
set_option maxRecDepth 100000 in
theorem typ_zero (w : World) (r : Nat) (l : List UInt8) (f : Bool) (h : Rs w r l f) : Calls Tryd.prog 63 #[.pointer (some ⟨r, 0, none⟩), .int .i64 0] w (RPost r zeroTy l true w) := by
  have hrw := h.lt
  have hs0 : w.heap[r]? = some (.cells #[.string (strOf l), .bool f] 82 (0, 0)) := h
  clear h
  have hb := Below.refl w.heap.size w
  go_enter Tryd.func63, Tryd.ntmps63
  go_upto_region 0 with (fail)
  apply wp_region_lit
  have lths0z := heap_lt hs0; (with_reducible refine wl_all ?_); intro W z hbn hlz hz; replace hs0 := below_look hbn hs0; replace hb := hb.trans (hbn.mono hb.size); clear hbn; simp only [put_lit, List.set_cons_zero, List.set_cons_succ]
  have hrz : r ≠ z := by omega
  go_upto_region 2 with (fail)
  apply wp_region_lit
  (with_reducible refine wl_k ?_ ?_); exact rfl; intro K hK; go_simp; refine hK _ ?_; clear hK K
  (with_reducible refine wl_k ?_ ?_); exact rfl; intro K hK; go_simp; refine hK _ ?_; clear hK K
  (with_reducible refine wl_k ?_ ?_); exact rfl; intro K hK; go_simp; refine hK _ ?_; clear hK K
  refine wl_putR1 rfl rfl (show Rs W r l f from hs0) ?_
  intro W2 hf hs
  replace hz := (hf.keep z (heap_lt hz) (by omega) (by omega)).trans hz
  have HF := Lib.hid ((Fr.of hb).trans hf)
  clear hf hs0
  go_upto_region 3 with (fail)
  apply wp_region_lit
  (with_reducible refine wl_k ?_ ?_); exact rfl; intro K hK; go_simp; refine hK _ ?_; clear hK K
  (with_reducible refine wl_k ?_ ?_); exact rfl; intro K hK; go_simp; refine hK _ ?_; clear hK K
  (with_reducible refine wl_k ?_ ?_); exact rfl; intro K hK; go_simp; refine hK _ ?_; clear hK K
  ((with_reducible apply wl_oneG); exact rfl; exact rfl; exact r1 hs)
  go_upto_region 4 with (fail)
  apply wp_region_lit
  refine wl_val rfl (ex_build 24 _ rfl (L := []) rfl built24z) ?_
  simp only [put_lit, List.set_cons_zero, List.set_cons_succ]
  (with_reducible refine wl_put rfl rfl hz ?_); rw [put_noneA]; intro W3 hbx hsz hkx hnx; replace hs := (hkx _ (by omega)).trans hs; clear hz; have hz := hnx; clear hnx
  have HQ := Lib.hid hz
  have HS := Lib.hid (show Rs W3 r l true from hs)
  have HF3 := Lib.hid (HF.out.put hlz hrw hbx hkx)
  clear hbx hkx hsz hz hs
  go_wp2_with fail
  exact bodyPost_ret (res24 rfl _ _ z rfl HQ.out) rfl ⟨_, rfl, zero_tree _ _, HS.out, HF3.out⟩
set_option maxHeartbeats 2000000 in
set_option maxRecDepth 100000 in
theorem typ_fail (left : Nat) (w : World) (r : Nat) (l : List UInt8) (h : Rs w r l true) : Calls Tryd.prog 63 #[.pointer (some ⟨r, 0, none⟩), .int .i64 (left : Int)] w (RPost r zeroTy l true w) := by
  by_cases h0 : left = 0
  · subst h0; exact typ_zero w r l true h
  have e0 : ((left : Int) == 0) = false := by simp [h0]
  have hrw := h.lt
  have hs : w.heap[r]? = some (.cells #[.string (strOf l), .bool true] 82 (0, 0)) := h
  clear h h0
  have hb := Below.refl w.heap.size w
  go_enter Tryd.func63, Tryd.ntmps63
  go_upto_region 0 with (fail)
  apply wp_region_lit
  have lthsz := heap_lt hs; (with_reducible refine wl_all ?_); intro W z hbn hlz hz; replace hs := below_look hbn hs; replace hb := hb.trans (hbn.mono hb.size); clear hbn; simp only [put_lit, List.set_cons_zero, List.set_cons_succ]
  have hrz : r ≠ z := by omega
  have HF := Lib.hid (Fr.of (g1 := r) (g2 := r) hb)
  go_upto_region 1 with (fail)
  apply wp_region_lit
  (with_reducible refine wl_k ?_ ?_); exact rfl; intro K hK; go_simp; refine hK _ ?_; clear hK K
  (with_reducible refine wl_k ?_ ?_); exact rfl; intro K hK; go_simp; refine hK _ ?_; clear hK K
  go_upto_region 3 with (fail)
  apply wp_region_lit
  (with_reducible refine wl_k ?_ ?_); exact rfl; intro K hK; go_simp; refine hK _ ?_; clear hK K
  (with_reducible refine wl_k ?_ ?_); exact rfl; intro K hK; go_simp; refine hK _ ?_; clear hK K
  (with_reducible refine wl_k ?_ ?_); exact rfl; intro K hK; go_simp; refine hK _ ?_; clear hK K
  ((with_reducible apply wl_oneG); exact rfl; exact rfl; exact r1 hs)
  go_upto_region 4 with (fail)
  apply wp_region_lit
  refine wl_val rfl (ex_build 24 _ rfl (L := []) rfl built24z) ?_
  simp only [put_lit, List.set_cons_zero, List.set_cons_succ]
  (with_reducible refine wl_put rfl rfl hz ?_); rw [put_noneA]; intro W3 hbx hsz hkx hnx; replace hs := (hkx _ (by omega)).trans hs; clear hz; have hz := hnx; clear hnx
  have HQ := Lib.hid hz
  have HS := Lib.hid (show Rs W3 r l true from hs)
  have HF3 := Lib.hid (HF.out.put hlz hrw hbx hkx)
  clear hbx hkx hsz hz hs
  go_wp2_with fail
  exact bodyPost_ret (res24 rfl _ _ z rfl HQ.out) rfl ⟨_, rfl, zero_tree _ _, HS.out, HF3.out⟩
end Go.Proofs.YtokmaehefenpmaaDoor
namespace Go.Proofs.YtokmaehefenpmaaDoor
open Go.RowKit Go.Proofs.YtokmaehefenpmaaDoor.Nm
theorem built24x (k : Int) (s : ByteArray) : Tryd.prog.built 24 [(0, .int .i64 k), (1, .string s)] = some (cell4 k s 0 none 0 0) := by kernel_rfl
theorem built24v (v : Int) : Tryd.prog.built 24 [(0, .int .i64 12), (2, .int .i64 v)] = some (cell4 12 ⟨#[]⟩ v none 0 0) := by kernel_rfl
theorem built24s (s : ByteArray) (A : Option Addr) (l c : Nat) : Tryd.prog.built 24 [(0, .int .i64 8), (1, .string s), (3, .slice A l c)] = some (cell4 8 s 0 A l c) := by kernel_rfl
theorem bytes_below (w : World) (t : ByteArray) : Below w.heap.size w (Lib.bytesWorld w 5 t) := ⟨rfl, rfl, rfl, by rw [Lib.bytesWorld_size]; omega, fun k hk => Lib.bytesWorld_at_old w 5 t k hk⟩
theorem Atoi_any (l : List UInt8) (hl : l.length ≤ 10000) (w : World) (hs : Sent w) : Calls Tryd.prog 89 #[.string (strOf l)] w fun e w' => ∃ ev, e = .returned (.tuple #[.int .i64 (atoiP l).1, ev]) ∧ ((atoiP l).2 = false → ev = .nilIface) ∧ ((atoiP l).2 = true → ∃ N, ev = .iface 143 (.pointer (some ⟨N, 0, none⟩))) ∧ Below w.heap.size w w' := by
  have hd : (strOf l).data.toList = l := by simp [strOf]
  cases h : Lib.atoiAll l with
  | ok v =>
    have he : atoiP l = (v, false) := by unfold atoiP; rw [h]
    rw [he]
    exact (Tryd.strconv_Atoi_ok (strOf l) (by rw [strOf_size]; omega) v (by rw [hd]; exact h) w).mono fun e w' ⟨h1, h2⟩ => ⟨_, h1, fun _ => rfl, fun h => (by cases h), by
      rcases h2 with rfl | ⟨t, rfl⟩
      · exact Below.refl _ _
      · exact bytes_below w t⟩
  | range =>
    have he : atoiP l = (Lib.atoiSat l, true) := by unfold atoiP; rw [h]
    rw [he]
    obtain ⟨ev, h1, h2⟩ := hs.2
    exact (Tryd.strconv_Atoi_range (strOf l) (by rw [strOf_size]; omega) (by rw [hd]; exact h) ev w h1 h2).mono fun e w' ⟨N, h3, _, _, h4⟩ => ⟨_, by rw [hd] at h3; exact h3, fun h => (by cases h), fun _ => ⟨N, rfl⟩, h4⟩
  | _ =>
    have he : atoiP l = (0, true) := by unfold atoiP; rw [h]
    rw [he]
    obtain ⟨ev, h1, h2⟩ := hs.1
    exact (Tryd.strconv_Atoi_syntax (strOf l) (by rw [strOf_size]; omega) (by rw [hd]; exact h) ev w h1 h2).mono fun e w' ⟨N, h3, _, _, h4⟩ => ⟨_, h3, fun h => (by cases h), fun _ => ⟨N, rfl⟩, h4⟩
theorem atoi_wf {l : List UInt8} {v : Int} (h : Lib.atoiAll l = .ok v) : (Lit.int .i64 v).wf = true := by
  have h1 : IntKind.i64.min = -9223372036854775808 := rfl
  have h2 : IntKind.i64.max = 9223372036854775807 := rfl
  have key : -9223372036854775808 ≤ v ∧ v ≤ 9223372036854775807 := by
    cases l with
    | nil => cases h
    | cons c r =>
      simp only [Lib.atoiAll] at h
      generalize Lib.parseMag _ = q at h
      cases q with
      | ok u =>
        simp only at h
        split at h
        · cases h
        · rename_i g1
          split at h
          · cases h
          · rename_i g2
            by_cases hn : c.toNat = 45
            · rw [if_pos hn] at h; cases h; omega
            · rw [if_neg hn] at h; cases h; omega
      | _ => cases h
  simp only [Lit.wf, Bool.and_eq_true, decide_eq_true_eq]
  omega
theorem atoiP_wf (l : List UInt8) : (Lit.int .i64 (atoiP l).1).wf = true := by
  unfold atoiP
  cases h : Lib.atoiAll l with
  | ok v => exact atoi_wf h
  | range =>
    have h1 : IntKind.i64.min = -9223372036854775808 := rfl
    have h2 : IntKind.i64.max = 9223372036854775807 := rfl
    have := Lib.atoiSat_bounds l
    simp only [Lit.wf, Bool.and_eq_true, decide_eq_true_eq]
    omega
  | _ => rfl
end Go.Proofs.YtokmaehefenpmaaDoor
namespace Go.Proofs.YtokmaehefenpmaaDoor
open Go.RowKit Go.Proofs.YtokmaehefenpmaaDoor.Nm
set_option linter.unusedSimpArgs false
/-- What the document's one returns: a tree and the place behind it, or -1. -/
def OPost (l : List UInt8) (R : Option (Ty × List UInt8)) (w : World) (e : Ending) (w' : World) : Prop := match R with
  | some (t, s1) => ∃ row, e = .returned (.tuple #[.agg row, .int .i64 ((l.length - s1.length : Nat) : Int)]) ∧ TyAt w' (fun b => w.heap.size ≤ b) t row ∧ Below w.heap.size w w'
  | none => ∃ t row, e = .returned (.tuple #[.agg row, .int .i64 (-1)]) ∧ TyAt w' (fun b => w.heap.size ≤ b) t row ∧ Below w.heap.size w w'
def OneC (l : List UInt8) (n : Nat) : Prop := ∀ i, i ≤ l.length → (l.drop i).length < n → ∀ w, Calls Tryd.prog 64 #[.string (strOf l), .int .i64 (i : Int)] w (OPost l (itOne n (l.drop i)) w)
def TPost (l : List UInt8) (R : Option (List Ty × List UInt8)) (w : World) (e : Ending) (w' : World) : Prop := match R with
  | some (ts, s1) => ∃ A n c, e = .returned (.tuple #[.slice A n c, .int .i64 ((l.length - s1.length : Nat) : Int)]) ∧ OwnT w' w.heap.size (.slice A n c) ts ∧ Below w.heap.size w w'
  | none => e = .returned (.tuple #[.slice none 0 0, .int .i64 (-1)]) ∧ Below w.heap.size w w'
set_option maxHeartbeats 4000000 in
set_option maxRecDepth 100000 in
theorem types_any (l : List UInt8) (hl : l.length ≤ 10000) (n : Nat) (hC : OneC l n) (e : UInt8) (i m0 : Nat) (hi : i ≤ l.length) (hn : (l.drop i).length < n) (hm : (l.drop i).length < m0) (R : Option (List Ty × List UInt8)) (hR : itTypes (itOne n) e m0 [] (l.drop i) = R) (w : World) :
    Calls Tryd.prog 91 #[.string (strOf l), .int .i64 (i : Int), .int .u8 (e.toNat : Int)] w (TPost l R w) := by
  obtain ⟨s, hs⟩ : ∃ s, s = strOf l := ⟨_, rfl⟩
  have hsz : s.size = l.length := by rw [hs, strOf_size]
  have hs1 : s.size ≤ 10000 := by omega
  have HS := Lib.hid hs
  have HSZ := Lib.hid hsz
  have HCC := Lib.hid hC
  rw [← hs]
  have HR := Lib.hid hR
  have HN := Lib.hid hn
  have HM := Lib.hid hm
  have HI := Lib.hid hi
  clear hs hR hC hn hm hi hl hsz
  go_enter Tryd.func91, Tryd.ntmps91
  go_wp2_with fail
  go_loopw [1, 8] (fun v o wr => ∃ (acc : List Ty) (k m : Nat) (A' : Option Addr) (l' c' : Nat), v = .int .i64 (k : Int) ∧ o = .slice A' l' c' ∧ Hid (OwnT wr w.heap.size (.slice A' l' c') acc) ∧ k ≤ s.size ∧ Hid ((l.drop k).length < n ∧ (l.drop k).length < m) ∧ Hid (itTypes (itOne n) e m acc (l.drop k) = R) ∧ Hid (acc.length + (l.length - k) ≤ 10000) ∧ Below w.heap.size w wr) (fun v _ _ => s.size - (intOf v).toNat)
  case atStart => exact ⟨[], i, m0, none, 0, 0, rfl, rfl, Lib.hid (OwnT.nil _ _), by rw [HSZ.out]; exact HI.out, Lib.hid ⟨HN.out, HM.out⟩, HR, Lib.hid (by have := HSZ.out; simp; omega), Below.refl _ _⟩
  case round =>
    obtain ⟨acc, k, m, A', l', c', rfl, rfl, HO, hk, HLN, HRR, HLA, hb⟩ := hrel
    have hkl : k ≤ l.length := by rw [← HSZ.out]; exact hk
    have hT := HCC.out k hkl HLN.out.1 wr
    rw [← HS.out] at hT
    have hrr := HRR.out
    have hwz := hb.size
    have HAL : Hid (acc.length ≤ 1000000) := Lib.hid (by have := HLA.out; omega)
    obtain ⟨m, rfl⟩ : ∃ m', m = m' + 1 := ⟨m - 1, by have := HLN.out.2; omega⟩
    simp only [itTypes] at hrr
    go_upto_region 2 with (fail)
    cases hr : itOne n (l.drop k) with
    | none =>
      rw [hr] at hT hrr
      have HT := Lib.hid hT
      have HRN : Hid (R = none) := Lib.hid hrr.symm
      clear hT hrr hr
      apply wp_region_lit
      (with_reducible refine wl_k ?_ ?_); exact rfl; intro K hK; go_simp; refine hK _ ?_; clear hK K
      (with_reducible refine wl_k ?_ ?_); exact rfl; intro K hK; go_simp; refine hK _ ?_; clear hK K
      (with_reducible refine wl_ck ?_ ?_); exact rfl; intro K hK; go_simp; refine ⟨_, _, ⟨rfl, rfl⟩, hK _ _ ⟨_, HT.out, ?_⟩⟩; clear hK K; rintro e w7 ⟨t7, row7, rfl, hta7, hb7⟩; refine ⟨_, rfl, ?_⟩; simp only [put_lit, List.set_cons_zero, List.set_cons_succ]
      obtain ⟨k7, s7, n7, A7, l7, c7, ts7, hu7, rfl, -⟩ := hta7.parts
      have HA := Lib.hid (HO.out.apart hwz hta7)
      have HO7 := Lib.hid (HO.out.old hb7)
      have hz := Below.refl w7.heap.size w7
      replace hb := hb.trans (hb7.mono hb.size)
      have h7z := hb.size
      clear hta7 hb7 HT hu7 HO
      (with_reducible refine wl_k ?_ ?_); exact rfl; intro K hK; go_simp; refine hK _ ?_; clear hK K
      (with_reducible refine wl_k ?_ ?_); exact rfl; intro K hK; go_simp; refine hK _ ?_; clear hK K
      (with_reducible refine wl_k ?_ ?_); exact rfl; intro K hK; go_simp; refine hK _ ?_; clear hK K
      (with_reducible refine wl_all ?_); intro X1 q hbn hlq hq; replace hz := hz.trans (hbn.mono hz.size); replace hb := hb.trans (hbn.mono hb.size); clear hbn; simp only [put_lit, List.set_cons_zero, List.set_cons_succ]
      (with_reducible refine wl_put rfl rfl hq ?_); rw [put_noneA]; intro X2 hbx hsz hkx hnx; replace hz := hbx _ _ (by omega) hz; replace hb := hbx _ _ (by omega) hb; clear hq; have hq := hnx; clear hnx
      clear hbx hkx hsz
      (with_reducible refine wl_k ?_ ?_); exact rfl; intro K hK; go_simp; refine hK _ ?_; clear hK K
      go_upto_region 3 with (fail)
      apply wp_region_lit
      (with_reducible refine wl_k ?_ ?_); exact rfl; intro K hK; go_simp; refine hK _ ?_; clear hK K
      (with_reducible refine wl_k ?_ ?_); exact rfl; intro K hK; go_simp; refine hK _ ?_; clear hK K
      (with_reducible refine wl_k ?_ ?_); exact rfl; intro K hK; go_simp; refine hK _ ?_; clear hK K
      (first | ((with_reducible refine wl_skipU ?_ ?_ ?_); exact rfl; exact rfl) | ((with_reducible refine wl_skip ?_ ?_); exact rfl; simp only [put_lit, List.set_cons_zero, List.set_cons_succ]))
      (first | ((with_reducible refine wl_skipU ?_ ?_ ?_); exact rfl; exact rfl) | ((with_reducible refine wl_skip ?_ ?_); exact rfl; simp only [put_lit, List.set_cons_zero, List.set_cons_succ]))
      (first | ((with_reducible refine wl_skipU ?_ ?_ ?_); exact rfl; exact rfl) | ((with_reducible refine wl_skip ?_ ?_); exact rfl; simp only [put_lit, List.set_cons_zero, List.set_cons_succ]))
      (first | ((with_reducible refine wl_skipU ?_ ?_ ?_); exact rfl; exact rfl) | ((with_reducible refine wl_skip ?_ ?_); exact rfl; simp only [put_lit, List.set_cons_zero, List.set_cons_succ]))
      (with_reducible refine wl_k ?_ ?_); exact rfl; intro K hK; go_simp; refine hK _ ?_; clear hK K
      clear hz hq
      go_upto_region 4 with (fail)
      apply wp_region_lit
      (with_reducible refine wl_k ?_ ?_); exact rfl; intro K hK; go_simp; refine hK _ ?_; clear hK K
      (with_reducible refine wl_k ?_ ?_); exact rfl; intro K hK; go_simp; refine hK _ ?_; clear hK K
      go_wp2_with fail
      go_ret2
      rw [HRN.out]
      exact ⟨rfl, hb⟩
    | some p =>
      obtain ⟨t, s1⟩ := p
      have hsuf := itOne_suf n _ _ _ hr
      rw [hr] at hT hrr
      obtain ⟨j, hj⟩ : ∃ j, j = l.length - s1.length := ⟨_, rfl⟩
      have hdj : l.drop j = s1 := by rw [hj]; exact suf_at (hsuf.trans (List.drop_suffix _ _))
      have hle := hsuf.length_le
      simp only [List.length_drop] at hle
      have hT2 : Calls Tryd.prog 64 #[.string s, .int .i64 (k : Int)] wr fun e w' => ∃ row, e = .returned (.tuple #[.agg row, .int .i64 (j : Int)]) ∧ TyAt w' (fun b => wr.heap.size ≤ b) t row ∧ Below wr.heap.size wr w' := by rw [hj]; exact hT
      have HT := Lib.hid hT2
      have hkj : k ≤ j := by omega
      have hjl : j ≤ s.size := by rw [HSZ.out]; omega
      have hj0 : ¬ (j : Int) < 0 := by omega
      have HJ := Lib.hid hj
      have HDJ := Lib.hid hdj
      have HRR2 := Lib.hid hrr
      clear hT hT2 hr hle hkl hj hdj hrr
      apply wp_region_lit
      (with_reducible refine wl_k ?_ ?_); exact rfl; intro K hK; go_simp; refine hK _ ?_; clear hK K
      (with_reducible refine wl_k ?_ ?_); exact rfl; intro K hK; go_simp; refine hK _ ?_; clear hK K
      (with_reducible refine wl_ck ?_ ?_); exact rfl; intro K hK; go_simp; refine ⟨_, _, ⟨rfl, rfl⟩, hK _ _ ⟨_, HT.out, ?_⟩⟩; clear hK K; rintro e w7 ⟨row7, rfl, hta7, hb7⟩; refine ⟨_, rfl, ?_⟩; simp only [put_lit, List.set_cons_zero, List.set_cons_succ]
      obtain ⟨k7, s7, n7, A7, l7, c7, ts7, hu7, rfl, -⟩ := hta7.parts
      have HA := Lib.hid (HO.out.apart hwz hta7)
      have HO7 := Lib.hid (HO.out.old hb7)
      have hz := Below.refl w7.heap.size w7
      replace hb := hb.trans (hb7.mono hb.size)
      have h7z := hb.size
      clear hta7 hb7 HT hu7 HO
      (with_reducible refine wl_k ?_ ?_); exact rfl; intro K hK; go_simp; refine hK _ ?_; clear hK K
      (with_reducible refine wl_k ?_ ?_); exact rfl; intro K hK; go_simp; refine hK _ ?_; clear hK K
      (with_reducible refine wl_k ?_ ?_); exact rfl; intro K hK; go_simp; refine hK _ ?_; clear hK K
      (with_reducible refine wl_all ?_); intro X1 q hbn hlq hq; replace hz := hz.trans (hbn.mono hz.size); replace hb := hb.trans (hbn.mono hb.size); clear hbn; simp only [put_lit, List.set_cons_zero, List.set_cons_succ]
      (with_reducible refine wl_put rfl rfl hq ?_); rw [put_noneA]; intro X2 hbx hsz hkx hnx; replace hz := hbx _ _ (by omega) hz; replace hb := hbx _ _ (by omega) hb; clear hq; have hq := hnx; clear hnx
      clear hbx hkx hsz
      (with_reducible refine wl_k ?_ ?_); exact rfl; intro K hK; go_simp; refine hK _ ?_; clear hK K
      go_upto_region 3 with (fail)
      cases s1 with
      | nil =>
        have HRN : Hid (R = none) := Lib.hid HRR2.out.symm
        have hje : j = s.size := by rw [HSZ.out, HJ.out]; simp
        have e1 : ((j : Int) == (s.size : Int)) = true := by rw [hje]; exact beq_self_eq_true _
        clear hje
        apply wp_region_lit
        (with_reducible refine wl_k ?_ ?_); exact rfl; intro K hK; go_simp; refine hK _ ?_; clear hK K
        (with_reducible refine wl_k ?_ ?_); exact rfl; intro K hK; go_simp; refine hK _ ?_; clear hK K
        (with_reducible refine wl_k ?_ ?_); exact rfl; intro K hK; go_simp; refine hK _ ?_; clear hK K
        (with_reducible refine wl_k ?_ ?_); exact rfl; intro K hK; go_simp; refine hK _ ?_; clear hK K
        (with_reducible refine wl_k ?_ ?_); exact rfl; intro K hK; go_simp; refine hK _ ?_; clear hK K
        (with_reducible refine wl_k ?_ ?_); exact rfl; intro K hK; go_simp; refine hK _ ?_; clear hK K
        (with_reducible refine wl_k ?_ ?_); exact rfl; intro K hK; go_simp; refine hK _ ?_; clear hK K
        (with_reducible refine wl_k ?_ ?_); exact rfl; intro K hK; go_simp; refine hK _ ?_; clear hK K
        clear hz hq e1
        go_upto_region 4 with (fail)
        apply wp_region_lit
        (with_reducible refine wl_k ?_ ?_); exact rfl; intro K hK; go_simp; refine hK _ ?_; clear hK K
        (with_reducible refine wl_k ?_ ?_); exact rfl; intro K hK; go_simp; refine hK _ ?_; clear hK K
        go_wp2_with fail
        go_ret2
        rw [HRN.out]
        exact ⟨rfl, hb⟩
      | cons c s2 =>
        have hjlt : j < s.size := by
          rw [HSZ.out]
          have := congrArg List.length HDJ.out
          simp at this; omega
        have e1 : ((j : Int) == (s.size : Int)) = false := beq_eq_false_iff_ne.2 (by omega)
        have hjI : (j : Int) < (s.size : Int) := by omega
        have hw1 : IntKind.i64.wrap ((j : Int) + 1) = (j : Int) + 1 := IntWalk.i64_in _ (by omega)
        have hw2 : IntKind.i64.wrap ((j : Int) + 2) = (j : Int) + 2 := IntWalk.i64_in _ (by omega)
        have hget : s[j] = c := by
          have h1 : l[j]? = some c := by rw [← List.head?_drop, HDJ.out]; rfl
          have h2 := HS.out
          subst h2
          rw [strOf_get l hjlt] at h1
          exact Option.some.inj h1
        have hdj2 : l.drop (j + 1) = s2 := by rw [← List.drop_drop, HDJ.out]; rfl
        have HDJ2 := Lib.hid hdj2
        have HG := Lib.hid hget
        clear hdj2 hget
        apply wp_region_lit
        (with_reducible refine wl_k ?_ ?_); exact rfl; intro K hK; go_simp; refine hK _ ?_; clear hK K
        (with_reducible refine wl_k ?_ ?_); exact rfl; intro K hK; go_simp; refine hK _ ?_; clear hK K
        (with_reducible refine wl_k ?_ ?_); exact rfl; intro K hK; go_simp; refine hK _ ?_; clear hK K
        (with_reducible refine wl_k ?_ ?_); exact rfl; intro K hK; go_simp; refine hK _ ?_; clear hK K
        (with_reducible refine wl_k ?_ ?_); exact rfl; intro K hK; go_simp; refine hK _ ?_; clear hK K
        (with_reducible refine wl_k ?_ ?_); exact rfl; intro K hK; go_simp; refine hK _ ?_; clear hK K
        (with_reducible refine wl_k ?_ ?_); exact rfl; intro K hK; go_simp; refine hK _ ?_; clear hK K
        (with_reducible refine wl_k ?_ ?_); exact rfl; intro K hK; go_simp; refine hK _ ?_; clear hK K
        clear e1
        go_upto_region 5 with (fail)
        apply wp_region_lit
        (with_reducible refine wl_k ?_ ?_); exact rfl; intro K hK; go_simp; refine hK _ ?_; clear hK K
        (first | ((with_reducible apply wl_oneG); exact rfl; exact rfl; first | exact f0 (by with_reducible assumption) | exact f1 (by with_reducible assumption) | exact f2 (by with_reducible assumption) | exact f3 (by with_reducible assumption) | with_reducible assumption | exact g22 (by with_reducible assumption) | exact g25 (by with_reducible assumption)) | ((with_reducible apply wl_rowG); exact rfl; exact rfl; first | with_reducible assumption | exact RowK.now (by with_reducible assumption) | exact f4 (by with_reducible assumption)))
        (with_reducible refine wl_bs rfl ?_); intro X5 q3 hbn hlq3 hq3; replace hz := hz.trans (hbn.mono hz.size); replace hb := hb.trans (hbn.mono hb.size); clear hbn; simp only [put_lit, List.set_cons_zero, List.set_cons_succ]
        refine wl_push rfl _ _ rfl rfl rfl (HO7.out.old hz) (HA.out.old hz) hq3 HAL.out (by have := hz.size; omega) ?_
        intro A9 l9 c9 w9 hown hk9 hbl
        have HLT := Lib.hid ((HO7.out.old hz).lt)
        have hzs := hz.size
        replace hb := hbl _ _ (fun b e => by have := (HLT.out b e).1; omega) hb.size hb
        have HO9 := Lib.hid hown
        clear hown hk9 hbl HLT hq3 hq
        (with_reducible refine wl_k ?_ ?_); exact rfl; intro K hK; go_simp; refine hK _ ?_; clear hK K
        clear hz HO7 HA
        go_upto_region 6 with (fail)
        by_cases hce : c = e
        · have ee : ((s[j].toNat : Int) == (e.toNat : Int)) = true := by rw [HG.out, hce]; exact beq_self_eq_true _
          have HRS : Hid (R = some (acc ++ [t], s2)) := Lib.hid (by have := HRR2.out; simp only at this; rw [if_pos hce] at this; exact this.symm)
          apply wp_region_lit
          (with_reducible refine wl_k ?_ ?_); exact rfl; intro K hK; go_simp; refine hK _ ?_; clear hK K
          (with_reducible refine wl_k ?_ ?_); exact rfl; intro K hK; go_simp; refine hK _ ?_; clear hK K
          (with_reducible refine wl_k ?_ ?_); exact rfl; intro K hK; go_simp; refine hK _ ?_; clear hK K
          (with_reducible refine wl_k ?_ ?_); exact rfl; intro K hK; go_simp; refine hK _ ?_; clear hK K
          (with_reducible refine wl_k ?_ ?_); exact rfl; intro K hK; go_simp; refine hK _ ?_; clear hK K
          clear ee hce
          go_upto_region 7 with (fail)
          apply wp_region_lit
          (with_reducible refine wl_k ?_ ?_); exact rfl; intro K hK; go_simp; refine hK _ ?_; clear hK K
          (with_reducible refine wl_k ?_ ?_); exact rfl; intro K hK; go_simp; refine hK _ ?_; clear hK K
          (with_reducible refine wl_k ?_ ?_); exact rfl; intro K hK; go_simp; refine hK _ ?_; clear hK K
          (with_reducible refine wl_k ?_ ?_); exact rfl; intro K hK; go_simp; refine hK _ ?_; clear hK K
          (with_reducible refine wl_k ?_ ?_); exact rfl; intro K hK; go_simp; refine hK _ ?_; clear hK K
          go_wp2_with fail
          go_ret2
          rw [HRS.out]
          have hp : ((l.length - s2.length : Nat) : Int) = (j : Int) + 1 := by
            have := congrArg List.length HDJ2.out
            have h2 := HSZ.out
            simp at this; omega
          exact ⟨_, _, _, by rw [hp]; rfl, HO9.out, hb⟩
        · have ee : ((s[j].toNat : Int) == (e.toNat : Int)) = false := by
            rw [HG.out]
            refine beq_eq_false_iff_ne.2 fun h => hce ?_
            exact UInt8.toNat_inj.1 (by omega)
          have hR3 := HRR2.out
          simp only at hR3
          rw [if_neg hce] at hR3
          apply wp_region_lit
          (with_reducible refine wl_k ?_ ?_); exact rfl; intro K hK; go_simp; refine hK _ ?_; clear hK K
          (with_reducible refine wl_k ?_ ?_); exact rfl; intro K hK; go_simp; refine hK _ ?_; clear hK K
          (with_reducible refine wl_k ?_ ?_); exact rfl; intro K hK; go_simp; refine hK _ ?_; clear hK K
          (with_reducible refine wl_k ?_ ?_); exact rfl; intro K hK; go_simp; refine hK _ ?_; clear hK K
          (with_reducible refine wl_k ?_ ?_); exact rfl; intro K hK; go_simp; refine hK _ ?_; clear hK K
          clear ee hce
          have hll : l.length ≤ 10000 := by rw [← HSZ.out]; exact hs1
          have hjl2 : j ≤ l.length := by rw [← HSZ.out]; exact hjl
          cases htc : takeL [44, 32] (c :: s2) with
          | none =>
            rw [htc] at hR3
            have HRN : Hid (R = none) := Lib.hid hR3.symm
            have hB := begins_no l hll j hjl2 ⟨#[44, 32]⟩ (by decide) (by rw [HDJ.out]; exact htc) w9
            rw [← HS.out] at hB
            have HB := Lib.hid hB
            clear hR3 htc hll hjl2 hB
            go_upto_region 8 with (fail)
            apply wp_region_lit
            (with_reducible refine wl_k ?_ ?_); exact rfl; intro K hK; go_simp; refine hK _ ?_; clear hK K
            (with_reducible refine wl_k ?_ ?_); exact rfl; intro K hK; go_simp; refine hK _ ?_; clear hK K
            (with_reducible refine wl_ck ?_ ?_); exact rfl; intro K hK; go_simp; refine ⟨_, _, ⟨rfl, rfl⟩, hK _ _ ⟨_, HB.out, ?_⟩⟩; clear hK K; rintro e w10 ⟨rfl, rfl⟩; refine ⟨_, rfl, ?_⟩; simp only [put_lit, List.set_cons_zero, List.set_cons_succ]
            (with_reducible refine wl_k ?_ ?_); exact rfl; intro K hK; go_simp; refine hK _ ?_; clear hK K
            clear HB
            go_upto_region 9 with (fail)
            apply wp_region_lit
            (with_reducible refine wl_k ?_ ?_); exact rfl; intro K hK; go_simp; refine hK _ ?_; clear hK K
            (with_reducible refine wl_k ?_ ?_); exact rfl; intro K hK; go_simp; refine hK _ ?_; clear hK K
            go_wp2_with fail
            go_ret2
            rw [HRN.out]
            exact ⟨rfl, hb⟩
          | some s3 =>
            rw [htc] at hR3
            have HR3 := Lib.hid hR3
            have hB := begins_yes l hll j hjl2 ⟨#[44, 32]⟩ s3 (by rw [HDJ.out]; exact htc) w9
            rw [← HS.out] at hB
            have HB := Lib.hid hB
            have hl3 := take_len htc
            have hd3 : l.drop (j + 2) = s3 := by
              have h1 := take_rest htc
              have h2 : (c :: s2).drop 2 = s3 := by
                unfold takeL at htc
                split at htc
                · exact Option.some.inj htc
                · cases htc
              rw [← List.drop_drop, HDJ.out]; exact h2
            have hlen := congrArg List.length HDJ.out
            simp only [List.length_drop, List.length_cons, List.length_nil] at hlen hl3
            have HX : Hid (j + 2 ≤ l.length ∧ (l.drop (j + 2)).length < n ∧ (l.drop (j + 2)).length < m ∧ itTypes (itOne n) e m (acc ++ [t]) (l.drop (j + 2)) = R ∧ (acc ++ [t]).length + (l.length - (j + 2)) ≤ 10000) := Lib.hid (by
              have h1 := HLN.out
              have h2 := HLA.out
              simp only [List.length_drop, List.length_append, List.length_cons, List.length_nil] at h1 h2 ⊢
              refine ⟨by omega, by omega, by omega, by rw [hd3]; exact HR3.out, by omega⟩)
            clear hR3 htc hll hjl2 hB hl3 hd3 hlen HR3
            go_upto_region 8 with (fail)
            apply wp_region_lit
            (with_reducible refine wl_k ?_ ?_); exact rfl; intro K hK; go_simp; refine hK _ ?_; clear hK K
            (with_reducible refine wl_k ?_ ?_); exact rfl; intro K hK; go_simp; refine hK _ ?_; clear hK K
            (with_reducible refine wl_ck ?_ ?_); exact rfl; intro K hK; go_simp; refine ⟨_, _, ⟨rfl, rfl⟩, hK _ _ ⟨_, HB.out, ?_⟩⟩; clear hK K; rintro e w10 ⟨rfl, rfl⟩; refine ⟨_, rfl, ?_⟩; simp only [put_lit, List.set_cons_zero, List.set_cons_succ]
            (with_reducible refine wl_k ?_ ?_); exact rfl; intro K hK; go_simp; refine hK _ ?_; clear hK K
            clear HB
            go_upto_region 10 with (fail)
            apply wp_region_lit
            (with_reducible refine wl_k ?_ ?_); exact rfl; intro K hK; go_simp; refine hK _ ?_; clear hK K
            (with_reducible refine wl_k ?_ ?_); exact rfl; intro K hK; go_simp; refine hK _ ?_; clear hK K
            (with_reducible refine wl_k ?_ ?_); exact rfl; intro K hK; go_simp; refine hK _ ?_; clear hK K
            go_wp2_with fail
            go_roundw
            case rel => exact ⟨acc ++ [t], j + 2, m, _, _, _, by go_num, rfl, HO9, by rw [HSZ.out]; exact HX.out.1, Lib.hid ⟨HX.out.2.1, HX.out.2.2.1⟩, Lib.hid HX.out.2.2.2.1, Lib.hid HX.out.2.2.2.2, hb⟩
            case measure => simp [intOf]; have := HX.out.1; rw [← HSZ.out] at this; omega
end Go.Proofs.YtokmaehefenpmaaDoor
