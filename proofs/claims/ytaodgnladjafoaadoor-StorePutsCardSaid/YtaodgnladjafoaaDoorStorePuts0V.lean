/- StorePuts, plain: what is looked at, where the document puts a text, what is taken. -/
import Derived.Test.YtaodgnladjafoaaDoorStore78V
set_option linter.unusedVariables false
set_option linter.unusedSimpArgs false
namespace Go.Proofs.YtaodgnladjafoaaDoor.SpC
open Go.RowKit Go.Proofs.YtaodgnladjafoaaDoor.QStorePuts Go.Proofs.YtaodgnladjafoaaDoorW.PrintWords Go.Proofs.YtaodgnladjafoaaDoorW.PrintLast Go.Proofs.YtaodgnladjafoaaDoorW.PrintMore Go.Proofs.YtaodgnladjafoaaDoor.SpM
theorem run_l (xs : List Bool) (a n : Nat) (hl : xs.length ≤ 1000000000) (ha : a + n ≤ xs.length) : ∀ (d k i : Nat) (b : Bool), i + d = a + n → a ≤ i → d < k → (b = true ↔ ∀ j, i ≤ j → j < a + n → xs.getD j true = false) →
    shaleref06_Run.l0 k xs (a : Int) (n : Int) (i : Int) = some b := by
  intro d
  induction d with
  | zero =>
    intro k i b hi hai hk hb
    obtain ⟨k, rfl⟩ : ∃ m, k = m + 1 := ⟨k - 1, by omega⟩
    have e0 : wrap64 ((a : Int) + (n : Int)) = ((a + n : Nat) : Int) := by unfold wrap64; omega
    have c1 : ¬ (i : Int) < ((a + n : Nat) : Int) := by omega
    simp only [shaleref06_Run.l0]
    rw [e0]
    refine itn c1 ?_
    rw [hb.2 (fun j h1 h2 => by omega)]
  | succ d ih =>
    intro k i b hi hai hk hb
    obtain ⟨k, rfl⟩ : ∃ m, k = m + 1 := ⟨k - 1, by omega⟩
    have e0 : wrap64 ((a : Int) + (n : Int)) = ((a + n : Nat) : Int) := by unfold wrap64; omega
    have c0 : (i : Int) < ((a + n : Nat) : Int) := by omega
    have c1 : (i : Int) < (xs.length : Int) := by omega
    have c2 : (0 : Int) ≤ (i : Int) := Int.natCast_nonneg i
    have e1 := w1_of i (by omega)
    have hg := rd_get xs i (by omega)
    simp only [shaleref06_Run.l0]
    rw [e0]
    refine itp c0 (itp c2 (itp c1 ?_))
    rw [hg, e1]
    by_cases hu : xs.getD i true = true
    · rw [if_pos hu]
      cases b with
      | false => rfl
      | true =>
        have := hb.1 rfl i (Nat.le_refl _) (by omega)
        rw [this] at hu
        cases hu
    · rw [if_neg hu]
      refine ih k (i + 1) b (by omega) (by omega) (by omega) (hb.trans ⟨?_, ?_⟩)
      · intro h j h1 h2
        exact h j (by omega) h2
      · intro h j h1 h2
        by_cases e : j = i
        · subst e; simpa using hu
        · exact h j (by omega) h2
theorem run_iff (xs : List Bool) (a n : Nat) : (∀ j, a ≤ j → j < a + n → xs.getD j true = false) ↔ n ≤ run xs (a + n) :=
  ⟨run_of_free xs a n, fun h j h1 h2 => run_free xs (a + n) j (by omega) h2⟩
theorem runs_at (xs : List Bool) (a n k : Nat) (hl : xs.length ≤ 1000000000) (ha : a < xs.length) (hn : n ≤ xs.length) (hk : n < k) :
    shaleref06_Run.f k xs (a : Int) (n : Int) = some (decide (a + n ≤ xs.length ∧ n ≤ run xs (a + n))) := by
  have e0 : wrap64 ((a : Int) + (n : Int)) = ((a + n : Nat) : Int) := by unfold wrap64; omega
  unfold shaleref06_Run.f
  rw [e0]
  by_cases h : a + n ≤ xs.length
  · refine itn (by omega) ?_
    refine run_l xs a n hl h n k a _ (by omega) (Nat.le_refl _) hk ?_
    rw [decide_eq_true_iff, run_iff]
    exact ⟨fun x => x.2, fun x => ⟨h, x⟩⟩
  · refine itp (by omega) ?_
    rw [decide_eq_false (fun x => h x.1)]
theorem least_l (xs : List Bool) (n : Nat) (hl : xs.length ≤ 1000000000) : ∀ (d k i : Nat), i + d = xs.length → d + xs.length < k →
    shaleref06_First.l0 k xs (n : Int) (i : Int) = some (least xs n d i) := by
  intro d
  induction d with
  | zero =>
    intro k i hi hk
    obtain ⟨k, rfl⟩ : ∃ m, k = m + 1 := ⟨k - 1, by omega⟩
    have c1 : ¬ (i : Int) < (xs.length : Int) := by omega
    simp only [shaleref06_First.l0]
    exact itn c1 rfl
  | succ d ih =>
    intro k i hi hk
    obtain ⟨k, rfl⟩ : ∃ m, k = m + 1 := ⟨k - 1, by omega⟩
    have c1 : (i : Int) < (xs.length : Int) := by omega
    have e1 := w1_of i (by omega)
    have hI := ih k (i + 1) (by omega) (by omega)
    simp only [shaleref06_First.l0]
    refine itp c1 ?_
    rw [e1]
    by_cases hn : n ≤ xs.length
    · refine itp (by omega) (bnd (runs_at xs i n k hl (by omega) hn (by omega)) ?_)
      by_cases h : i + n ≤ xs.length ∧ n ≤ run xs (i + n)
      · have hf : least xs n (d + 1) i = (i : Int) := by
          simp only [least]
          rw [if_pos ⟨hn, h⟩]
        rw [hf]
        exact itp (decide_eq_true h) rfl
      · have hf : least xs n (d + 1) i = least xs n d (i + 1) := by
          simp only [least]
          rw [if_neg (fun x => h x.2)]
        rw [hf]
        exact itn (by rw [decide_eq_false h]; decide) hI
    · have hf : least xs n (d + 1) i = least xs n d (i + 1) := by
        simp only [least]
        rw [if_neg (fun x => hn x.1)]
      rw [hf]
      exact itn (by omega) hI
end Go.Proofs.YtaodgnladjafoaaDoor.SpC
namespace Go.Proofs.YtaodgnladjafoaaDoor.Sto
open Go.RowKit Go.Proofs.YtaodgnladjafoaaDoorW.PrintWords Go.Proofs.YtaodgnladjafoaaDoorW.PrintLast Go.Proofs.YtaodgnladjafoaaDoorW.PrintMore Go.Proofs.YtaodgnladjafoaaDoor.Md Go.Proofs.YtaodgnladjafoaaDoor.Mni Go.Proofs.YtaodgnladjafoaaDoor.QStorePuts
open Go.Proofs.YtaodgnladjafoaaDoor.Dk (Dsk IsD Ft mayN rd)
open Go.Proofs.YtaodgnladjafoaaDoor.Slt (Sl switched bestOf)
open Go.Proofs.YtaodgnladjafoaaDoor.Err (Laid IsErr code_nil code_c Chain at_some at_nil)
abbrev Ac := S41
abbrev ack : Kd Ac := k41
theorem rd_ac (l : List Ac) (i : Nat) (h : i < l.length) : rd_T41 l (i : Int) = l[i] := by
  unfold rd_T41
  simp [List.getD_eq_getElem?_getD, List.getElem?_eq_getElem h]
theorem few_run (l : List Ac) : ∀ (n i : Nat), i + n = min l.length 31 → ∃ b, shalelaw21_few.l0 (2 * n + 2) l (i : Int) = some b ∧ (b = true → l.length ≤ 30 ∧ ∀ j, i ≤ j → (h : j < l.length) → (l[j]).f1.size ≤ 20000)
  | 0, i, hi => by
    show ∃ b, shalelaw21_few.l0 2 l (i : Int) = some b ∧ _
    unfold shalelaw21_few.l0
    by_cases hlt : (i : Int) < (l.length : Int)
    · rw [if_pos hlt, decide_eq_false (by omega)]
      refine ⟨_, rfl, fun hb => ?_⟩
      have := of_decide_eq_true hb
      omega
    · rw [if_neg hlt]
      refine ⟨_, rfl, fun hb => ⟨?_, fun j hj h => by omega⟩⟩
      have := of_decide_eq_true hb
      omega
  | n + 1, i, hi => by
    have hil : i < l.length := by omega
    obtain ⟨b, hb1, hb2⟩ := few_run l n (i + 1) (by omega)
    show ∃ b, shalelaw21_few.l0 (2 * n + 2 + 2) l (i : Int) = some b ∧ _
    unfold shalelaw21_few.l0
    rw [if_pos (by omega), decide_eq_true (by omega)]
    unfold shalelaw21_few.j1
    rw [if_pos rfl, if_pos (by omega), if_pos (by omega), rd_ac l i hil]
    by_cases hs : ((l[i].f1.size : Nat) : Int) > 20000
    · rw [if_pos hs]
      exact ⟨false, rfl, fun h => by cases h⟩
    · have e : wrap64 ((i : Int) + 1) = ((i + 1 : Nat) : Int) := by unfold wrap64; omega
      rw [if_neg hs, e, hb1]
      refine ⟨b, rfl, fun h => ⟨(hb2 h).1, fun j hj hl => ?_⟩⟩
      by_cases hji : j = i
      · subst hji; omega
      · exact (hb2 h).2 j (by omega) hl
theorem few_f (l : List Ac) : ∃ k b, shalelaw21_few.f k l = some b ∧ (b = true → l.length ≤ 30 ∧ ∀ j, (h : j < l.length) → (l[j]).f1.size ≤ 20000) := by
  obtain ⟨b, h1, h2⟩ := few_run l (min l.length 31) 0 (by omega)
  exact ⟨_, b, h1, fun h => ⟨(h2 h).1, fun j hj => (h2 h).2 j (Nat.zero_le _) hj⟩⟩
theorem mark_run (n a N : Nat) (hN : N ≤ 100000) (hn : a + n ≤ N) : ∀ (d i : Nat) (xs : List Bool), i + d = n → xs.length = N → shaleref21_Put.l0 (d + 1) (n : Int) (a : Int) xs (i : Int) = some ((a : Int), markN d ((a : Int) + (i : Int)) xs)
  | 0, i, xs, hi, hx => by
    unfold shaleref21_Put.l0
    rw [if_neg (by omega)]
    rfl
  | d + 1, i, xs, hi, hx => by
    have e : wrap64 ((a : Int) + (i : Int)) = (a : Int) + (i : Int) := by unfold wrap64; omega
    have e1 : wrap64 ((i : Int) + 1) = ((i + 1 : Nat) : Int) := by unfold wrap64; omega
    unfold shaleref21_Put.l0
    rw [if_pos (by omega), if_pos (by omega), e, if_pos (by omega), if_pos (by omega), e1, mark_run n a N hN hn d (i + 1) _ (by omega) (by rw [List.length_set]; exact hx)]
    have e2 : (a : Int) + (((i + 1 : Nat)) : Int) = (a : Int) + (i : Int) + 1 := by omega
    have em : markN (d + 1) ((a : Int) + (i : Int)) xs = markN d ((a : Int) + (i : Int) + 1) (xs.set ((a : Int) + (i : Int)).toNat true) := by
      show markN d _ (if _ then _ else _) = _
      rw [if_pos (by omega)]
    rw [em, e2]
/-- where the document puts a text of sz bytes -/
def putAt (xs : List Bool) (sz : Nat) : Int := if 1 ≤ sz ∧ sz ≤ 16384 then SpM.least xs ((sz + 63) / 64) xs.length 0 else -1
def putOut (xs : List Bool) (sz : Nat) : List Bool := if 0 ≤ putAt xs sz then markN ((sz + 63) / 64) (putAt xs sz) xs else xs
theorem putAt_cases (xs : List Bool) (sz : Nat) : putAt xs sz = -1 ∨ (1 ≤ sz ∧ sz ≤ 16384 ∧ ∃ a : Nat, putAt xs sz = (a : Int) ∧ a + (sz + 63) / 64 ≤ xs.length ∧ SpM.find xs (((sz + 63) / 64 : Nat) : Int) xs.length 0 = ((a : Int), true)) := by
  unfold putAt
  by_cases h : 1 ≤ sz ∧ sz ≤ 16384
  · rw [if_pos h]
    rcases find_at xs ((sz + 63) / 64) (by omega) with ⟨a, h1, h2, h3, _⟩ | ⟨_, h2, _⟩
    · exact .inr ⟨h.1, h.2, a, h2, h3, h1⟩
    · exact .inl h2
  · rw [if_neg h]; exact .inl rfl
theorem putAt_no (xs : List Bool) (sz : Nat) (h1 : 1 ≤ sz) (h2 : sz ≤ 16384) (h : putAt xs sz = -1) : ∃ x, SpM.find xs (((sz + 63) / 64 : Nat) : Int) xs.length 0 = (x, false) := by
  unfold putAt at h
  rw [if_pos ⟨h1, h2⟩] at h
  rcases find_at xs ((sz + 63) / 64) (by omega) with ⟨a, _, g2, _⟩ | ⟨g1, _, _⟩
  · rw [g2] at h; omega
  · exact ⟨_, g1⟩
theorem refPut_f (xs : List Bool) (sz : Nat) (hN : xs.length ≤ 2048) (hs : sz ≤ 20000) : ∃ k, shaleref21_Put.f k xs (sz : Int) = some (putAt xs sz, putOut xs sz) := by
  have en : wrap64 (Int.tdiv (wrap64 ((sz : Int) + 63)) 64) = (((sz + 63) / 64 : Nat) : Int) := by
    have e1 : wrap64 ((sz : Int) + 63) = ((sz + 63 : Nat) : Int) := by unfold wrap64; omega
    rw [e1]
    have e2 : Int.tdiv ((sz + 63 : Nat) : Int) 64 = (((sz + 63) / 64 : Nat) : Int) := rfl
    rw [e2]
    unfold wrap64; omega
  have hc := putAt_cases xs sz
  obtain ⟨K, hK⟩ : ∃ K, K = 30000 := ⟨_, rfl⟩
  refine ⟨K + 1 + 1, ?_⟩
  unfold shaleref21_Put.f
  rw [en]
  have tail : ∀ (at_ : Int), at_ = putAt xs sz → shaleref21_Put.j1 (K + 1) xs (((sz + 63) / 64 : Nat) : Int) at_ = some (putAt xs sz, putOut xs sz) := by
    rintro at_ rfl
    rw [shaleref21_Put.j1]
    rw [Option.bind_some, List.nil_append, List.length_nil, if_pos (by omega)]
    rcases hc with h | ⟨h1, h2, a, h3, h4, _⟩
    · unfold putOut
      rw [h, if_neg (by omega)]
      obtain ⟨K2, hK2⟩ : ∃ K2, K = K2 + 1 := ⟨K - 1, by omega⟩
      rw [hK2]
      unfold shaleref21_Put.l0
      by_cases h0 : (0 : Int) < (((sz + 63) / 64 : Nat) : Int)
      · rw [if_pos h0, if_neg (by omega)]
      · rw [if_neg h0]
    · unfold putOut
      rw [h3, if_pos (by omega)]
      have z := mark_run ((sz + 63) / 64) a xs.length (by omega) h4 ((sz + 63) / 64) 0 xs (by omega) rfl
      rw [Int.natCast_zero, Int.add_zero] at z
      have hk : ∃ m, K = (sz + 63) / 64 + 1 + m := ⟨K - ((sz + 63) / 64 + 1), by omega⟩
      obtain ⟨m, hm⟩ := hk
      rw [hm]
      clear hm hK
      induction m with
      | zero => exact z
      | succ m ih => exact (shaleref21_Put.mono_l _).2.2 _ _ _ _ _ ih
  by_cases h1 : 1 ≤ sz
  · rw [if_pos (by omega)]
    rw [shaleref21_Put.j0]
    by_cases h2 : sz ≤ 16384
    · rw [decide_eq_true (by omega), if_pos rfl]
      unfold shaleref06_First.f
      have z := SpC.least_l xs ((sz + 63) / 64) (by omega) xs.length (K + 1) 0 (by omega) (by omega)
      rw [Int.natCast_zero] at z
      rw [z, Option.bind_some]
      refine tail _ ?_
      unfold putAt
      rw [if_pos ⟨h1, h2⟩]
    · rw [decide_eq_false (by omega), if_neg (by decide)]
      refine tail _ ?_
      unfold putAt
      rw [if_neg (by omega)]
  · rw [if_neg (by omega)]
    rw [shaleref21_Put.j0]
    rw [if_neg (by decide)]
    refine tail _ ?_
    unfold putAt
    rw [if_neg (by omega)]
/-- a store along the law: formatted, j acts behind -/
structure PS (N j : Nat) (s : St) : Prop where
  size : s.d.size = (N : Int)
  down : s.d.down = false
  budget : s.d.budget = -1
  soft : s.d.soft.length ≤ 256 * j
  len : s.put.length ≤ j
  own : s.own = (sF N).own
  held : s.held = []
  rf : ∀ r ∈ s.put, 0 ≤ r.f0 ∧ r.f0 ≤ 1000000
theorem PS.start (N : Nat) : PS N 0 (sF N) := ⟨rfl, rfl, rfl, Nat.le_refl _, Nat.le_refl _, rfl, rfl, fun r hr => by cases hr⟩
theorem PS.next {N j : Nat} {s : St} (h : PS N j s) : PS N (j + 1) s := ⟨h.size, h.down, h.budget, by have := h.soft; omega, by have := h.len; omega, h.own, h.held, h.rf⟩
theorem own_F (N : Nat) : 0 ≤ (sF N).own.f0 ∧ (sF N).own.f0 ≤ 1000000 := ⟨show (0 : Int) ≤ 2 by decide, show (2 : Int) ≤ 1000000 by decide⟩
theorem PS.ok {N j : Nat} {s : St} (h : PS N j s) (h8 : 8 ≤ N) (h2 : N ≤ 2048) (hj : j ≤ 1000000) : Ok emptyM s := by
  refine ok_e ⟨by rw [h.size]; omega, by rw [h.size]; omega⟩ (fun r hr => ?_) (by have := h.len; omega)
  have hk : keys s = [] := by unfold keys; rw [h.held]; rfl
  rw [hk, List.append_nil] at hr
  rcases List.mem_cons.1 hr with e | e
  · rw [e, h.own]; exact own_F N
  · exact h.rf r e
theorem PS.put {N j : Nat} {s : St} (h : PS N j s) (a : Int) (t : ByteArray) (n : Nat) (hn : n ≤ 256) (ha0 : 0 ≤ a) (ha : a ≤ 1000000) : PS N (j + 1) (putS s a t n) := by
  refine ⟨h.size, h.down, h.budget, ?_, ?_, h.own, h.held, fun r hr => ?_⟩
  · show (s.d.soft ++ Blb.pgs t a n).length ≤ _
    rw [List.length_append, Blb.pgs_length]
    have := h.soft
    omega
  · show (s.put ++ [_]).length ≤ _
    rw [List.length_append, List.length_singleton]
    have := h.len
    omega
  · have hr : r ∈ s.put ++ [(⟨a, (t.size : Int), AdM.sum t⟩ : Rf)] := hr
    rcases List.mem_append.1 hr with e | e
    · exact h.rf r e
    · rw [List.mem_singleton] at e
      subst e
      exact ⟨ha0, ha⟩
/-- what is taken once a text is put is what the document says -/
theorem used_put {N j : Nat} {s : St} (h : PS N j s) (a : Nat) (t : ByteArray) (n : Nat) (hn : Blb.pagesV (t.size : Int) = (n : Int)) : used emptyM (putS s (a : Int) t n) = markN n (a : Int) (used emptyM s) := by
  have e : (pagesV (t.size : Int)).toNat = n := by
    have : pagesV (t.size : Int) = (n : Int) := hn
    rw [this]; rfl
  have z := markN_all ⟨(a : Int), (t.size : Int), AdM.sum t⟩ (used emptyM s)
  have z2 : markN n (a : Int) (used emptyM s) = markAll (used emptyM s) [⟨(a : Int), (t.size : Int), AdM.sum t⟩] := by rw [← e]; exact z
  rw [z2, used_e, used_e, markAll_more]
  refine markAll_same _ (fun r => ?_)
  have hk : keys s = [] := by unfold keys; rw [h.held]; rfl
  have hk2 : keys (putS s (a : Int) t n) = [] := by
    show keys s = []
    exact hk
  rw [hk, hk2, List.append_nil, List.append_nil]
  show r ∈ s.own :: (s.put ++ [(⟨(a : Int), (t.size : Int), AdM.sum t⟩ : Rf)]) ↔ _
  rw [List.cons_append]
/-- what is held stays taken -/
theorem used_hold {N j : Nat} {s : St} (h : PS N j s) (hj : j ≤ 1000000) (L : List (Rf × Int)) (hL : L = s.put.foldl hold1 s.held) : used emptyM { s with put := [], held := L } = used emptyM s := by
  rw [used_e, used_e]
  refine markAll_same _ (fun r => ?_)
  have hk : keys s = [] := by unfold keys; rw [h.held]; rfl
  rw [hk, List.append_nil]
  have hl := h.len
  have hk2 : r ∈ keys { s with put := [], held := L } ↔ r ∈ s.put := by
    show r ∈ L.map (·.1) ↔ _
    rw [hL, h.held]
    exact hold_keys s.put (by omega) r
  show r ∈ s.own :: ([] ++ keys { s with put := [], held := L }) ↔ r ∈ s.own :: s.put
  rw [List.nil_append, List.mem_cons, List.mem_cons, hk2]
theorem used_freed {N j : Nat} {s : St} (h : PS N j s) : used emptyM { s with put := [], held := [] } = used emptyM (sF N) := by
  rw [used_e, used_e]
  show markAll (Mni.start s.d.size.toNat) (s.own :: ([] ++ [])) = markAll (Mni.start (sF N).d.size.toNat) ((sF N).own :: ([] ++ []))
  rw [h.size, h.own]
  rfl
theorem ok_hold {N j : Nat} {s : St} (h : PS N j s) (h8 : 8 ≤ N) (h2 : N ≤ 2048) (hj : j ≤ 1000000) (L : List (Rf × Int)) (hL : L = s.put.foldl hold1 s.held) : Ok emptyM { s with put := [], held := L } := by
  refine ok_e ⟨by show 2 ≤ s.d.size; rw [h.size]; omega, by show s.d.size ≤ 2048; rw [h.size]; omega⟩ (fun r hr => ?_) (Nat.zero_le _)
  have hr : r ∈ s.own :: ([] ++ L.map (·.1)) := hr
  rw [List.nil_append] at hr
  have hl := h.len
  rcases List.mem_cons.1 hr with e | e
  · rw [e, h.own]; exact own_F N
  · rw [hL, h.held, hold_keys s.put (by omega)] at e
    exact h.rf r e
theorem ok_freed {N j : Nat} {s : St} (h : PS N j s) (h8 : 8 ≤ N) (h2 : N ≤ 2048) : Ok emptyM { s with put := [], held := [] } := by
  refine ok_e ⟨by show 2 ≤ s.d.size; rw [h.size]; omega, by show s.d.size ≤ 2048; rw [h.size]; omega⟩ (fun r hr => ?_) (Nat.zero_le _)
  have hr : r ∈ s.own :: ([] ++ []) := hr
  rw [List.nil_append, List.mem_singleton] at hr
  rw [hr, h.own]; exact own_F N
/-- how many are true -/
def cntT : List Bool → Nat
  | [] => 0
  | b :: l => (if b then 1 else 0) + cntT l
theorem cntT_append : ∀ (l m : List Bool), cntT (l ++ m) = cntT l + cntT m
  | [], m => by simp [cntT]
  | b :: l, m => by
    show (if b then 1 else 0) + cntT (l ++ m) = _
    rw [cntT_append l m]
    show _ = (if b then 1 else 0) + cntT l + cntT m
    omega
theorem cntT_le : ∀ (l : List Bool), cntT l ≤ l.length
  | [] => Nat.le_refl _
  | b :: l => by
    unfold cntT
    have := cntT_le l
    rw [List.length_cons]
    split <;> omega
theorem cntT_step (l : List Bool) (j : Nat) (h : j < l.length) : cntT (l.take (j + 1)) = cntT (l.take j) + (if l[j] then 1 else 0) := by
  rw [← List.take_append_getElem h, cntT_append]
  show _ + ((if l[j] then 1 else 0) + 0) = _
  omega
theorem cnt_first (c : Nat) : ∀ (l : List Bool), (∀ i, i < l.length → l[i]? = some (decide (i < c))) → cntT l = min c l.length := by
  suffices hs : ∀ (j : Nat) (l : List Bool), j ≤ l.length → (∀ i, i < l.length → l[i]? = some (decide (i < c))) → cntT (l.take j) = min c j by
    intro l h
    have z := hs l.length l (Nat.le_refl _) h
    rwa [List.take_length] at z
  intro j
  induction j with
  | zero => intro l _ _; simp [cntT]
  | succ j ih =>
    intro l hj h
    have hjl : j < l.length := by omega
    have z := h j hjl
    rw [List.getElem?_eq_getElem hjl] at z
    have z : l[j] = decide (j < c) := by simpa using z
    rw [cntT_step l j hjl, ih l (by omega) h, z]
    by_cases hc : j < c
    · rw [decide_eq_true hc]
      show min c j + 1 = min c (j + 1)
      omega
    · rw [decide_eq_false hc]
      show min c j + 0 = min c (j + 1)
      omega
theorem cnt_F (N : Nat) (h : 8 ≤ N) : cntT (used emptyM (sF N)) = 3 := by
  have hl := used_size (sF N) N rfl
  rw [cnt_first 3 _ (fun i hi => used_F N i (by rw [hl] at hi; exact hi)), hl]
  omega
end Go.Proofs.YtaodgnladjafoaaDoor.Sto
