/- Words that the proof uses. -/
import Derived.Test.YtaodgnladjafoaaGreatDoorAgain01V
import Derived.Test.YtaodgnladjafoaaGreatDoorBlobBudV
set_option linter.unusedVariables false
set_option linter.unusedSimpArgs false
namespace Go.Proofs.YtaodgnladjafoaaGreatDoor.Sto
open Go.RowKit Go.Proofs.YtaodgnladjafoaaGreatDoorW.PrintWords Go.Proofs.YtaodgnladjafoaaGreatDoorW.PrintLast Go.Proofs.YtaodgnladjafoaaGreatDoorW.PrintMore Go.Proofs.YtaodgnladjafoaaGreatDoor.Md Go.Proofs.YtaodgnladjafoaaGreatDoor.Mni Go.Proofs.YtaodgnladjafoaaGreatDoor.QStoreLasts
open Go.Proofs.YtaodgnladjafoaaGreatDoor.Dk (Dsk IsD Ft mayN rd stl bit Pg)
open Go.Proofs.YtaodgnladjafoaaGreatDoor.Slt (Sl switched flushed bestOf slotOf pick)
def cov (r : Rf) (j : Int) : Prop := r.f0 ≤ j ∧ j < r.f0 + pagesV r.f1
instance (r : Rf) (j : Int) : Decidable (cov r j) := by unfold cov; infer_instance
theorem covers_cov (r : Rf) (i : Nat) : covers r i = decide (cov r (i : Int)) := rfl
def Ap (r x : Rf) : Prop := ∀ j : Int, cov r j → cov x j → False
theorem Ap.symm {r x : Rf} (h : Ap r x) : Ap x r := fun j h1 h2 => h j h2 h1
theorem fold_out (j : Int) : ∀ (l : List (Int × Pg)) (p : Pg), (∀ x ∈ l, x.1 ≠ j) → l.foldl (fun out x => if x.1 = j then x.2 else out) p = p
  | [], p, _ => rfl
  | x :: l, p, h => by
    rw [List.foldl_cons, if_neg (h x List.mem_cons_self)]
    exact fold_out j l p (fun y hy => h y (List.mem_cons_of_mem _ hy))
theorem rd_out (d : Dsk) (j : Int) (h : ∀ x ∈ d.soft, x.1 ≠ j) : rd d j = d.firm j := fold_out j _ _ h
theorem stl_out (mask : Nat) (j : Int) : ∀ (l : List (Int × Pg)) (F : Int → Pg) (n : Nat), (∀ x ∈ l, x.1 ≠ j) → stl mask F l n j = F j
  | [], F, n, _ => rfl
  | x :: l, F, n, h => by
    rw [stl, stl_out mask j l _ (n + 1) (fun y hy => h y (List.mem_cons_of_mem _ hy))]
    split
    · unfold Dk.upd
      exact if_neg (fun e => h x List.mem_cons_self e.symm)
    · rfl
theorem pgs_at (t : ByteArray) (a : Int) : ∀ (n : Nat) (x : Int × Pg), x ∈ Blb.pgs t a n → a ≤ x.1 ∧ x.1 < a + (n : Int)
  | 0, x, h => (List.not_mem_nil h).elim
  | n + 1, x, h => by
    rcases List.mem_append.1 h with h | h
    · have := pgs_at t a n x h
      omega
    · rw [List.mem_singleton] at h
      subst h
      show a ≤ a + (n : Int) ∧ a + (n : Int) < a + ((n + 1 : Nat) : Int)
      omega
def frm (d : Dsk) : Dsk := { d with soft := [] }
theorem Txt.cv {d : Dsk} {r : Rf} {t : ByteArray} {n : Nat} (h : Txt d r t n) : pagesV r.f1 = (n : Int) := h.pg
theorem Txt.on {d d' : Dsk} {r : Rf} {t : ByteArray} {n : Nat} (h : Txt d r t n) (hs : d'.size = d.size) (hr : ∀ j, cov r j → rd d' j = rd d j) : Txt d' r t n :=
  ⟨h.pg, h.n1, h.x0, by rw [hs]; exact h.x1, h.len, h.sum, h.sz, fun i hi => by
    rw [hr _ ⟨by omega, by rw [h.cv]; omega⟩]
    exact h.tx i hi⟩
theorem Txt.live {d : Dsk} {r : Rf} {t : ByteArray} {n : Nat} (h : Txt (frm d) r t n) (hs : ∀ x ∈ d.soft, ¬ cov r x.1) : Txt d r t n :=
  h.on rfl (fun j hj => rd_out d j (fun x hx e => hs x hx (e ▸ hj)))
theorem Txt.right {d : Dsk} {r : Rf} {t : ByteArray} {n : Nat} (h : Txt d r t n) : rightV r.f0 r.f1 d.size = true := by
  have h1 := h.cv
  have h2 := h.n1
  have h3 := h.x0
  have h4 := h.x1
  exact rightV_iff.2 (by omega)
theorem markP_gen : ∀ (n a : Nat) (out : List Bool), a + n ≤ out.length → (∀ i, a ≤ i → i < a + n → out.getD i false = false) → ∃ out', markP n a out = some out' ∧ out'.length = out.length ∧ ∀ i, out'.getD i false = (out.getD i false || decide (a ≤ i ∧ i < a + n))
  | 0, a, out, _, _ => ⟨out, rfl, rfl, fun i => by rw [decide_eq_false (by omega), Bool.or_false]⟩
  | n + 1, a, out, hl, hf => by
    have hz := hf a (Nat.le_refl _) (by omega)
    have hset : ∀ i, (out.set a true).getD i false = (out.getD i false || decide (a = i)) := fun i => by
      rw [List.getD_eq_getElem?_getD, List.getD_eq_getElem?_getD, List.getElem?_set]
      by_cases e : a = i
      · subst e
        rw [if_pos rfl, if_pos (by omega)]
        simp
      · rw [if_neg e, decide_eq_false e, Bool.or_false]
    obtain ⟨o2, h1, h2, h3⟩ := markP_gen n (a + 1) (out.set a true) (by rw [List.length_set]; omega) (fun i h1 h2 => by rw [hset, hf i (by omega) (by omega), decide_eq_false (by omega)]; rfl)
    refine ⟨o2, ?_, by rw [h2, List.length_set], fun i => ?_⟩
    · show (if out.getD a false = true then none else markP n (a + 1) (out.set a true)) = _
      rw [hz, if_neg (by decide)]
      exact h1
    · rw [h3, hset, Bool.or_assoc, ← Bool.decide_or]
      congr 1
      exact decide_eq_decide.2 (by omega)
theorem markR_gen (N : Nat) : ∀ (l : List Rf) (out : List Bool), out.length = N → (∀ r ∈ l, rightV r.f0 r.f1 (N : Int) = true) → l.Pairwise Ap → (∀ r ∈ l, ∀ i : Nat, cov r (i : Int) → out.getD i false = false) → ∃ out', markR (N : Int) l out = some out' ∧ out'.length = N ∧ ∀ i, out'.getD i false = (out.getD i false || l.any (fun r => covers r i))
  | [], out, hl, _, _, _ => ⟨out, rfl, hl, fun i => by simp⟩
  | r :: l, out, hl, hr, hp, hf => by
    have hv := rightV_iff.1 (hr r List.mem_cons_self)
    obtain ⟨n, hn⟩ : ∃ n : Nat, pagesV r.f1 = (n : Int) := ⟨(pagesV r.f1).toNat, by omega⟩
    obtain ⟨a, ha⟩ : ∃ a : Nat, r.f0 = (a : Int) := ⟨r.f0.toNat, by omega⟩
    have hcv : ∀ i : Nat, covers r i = decide (a ≤ i ∧ i < a + n) := fun i => by
      rw [covers_cov]
      unfold cov
      exact decide_eq_decide.2 (by omega)
    rw [hn, ha] at hv
    obtain ⟨o1, h1, h2, h3⟩ := markP_gen n a out (by omega) (fun i q1 q2 => hf r List.mem_cons_self i (by unfold cov; omega))
    rw [List.pairwise_cons] at hp
    obtain ⟨o2, h4, h5, h6⟩ := markR_gen N l o1 (by omega) (fun x hx => hr x (List.mem_cons_of_mem _ hx)) hp.2 (fun x hx i hi => by
      rw [h3, hf x (List.mem_cons_of_mem _ hx) i hi, decide_eq_false (fun q => hp.1 x hx i (by unfold cov; omega) hi)]
      rfl)
    refine ⟨o2, ?_, h5, fun i => ?_⟩
    · rw [markR_cons, if_pos (hr r List.mem_cons_self), hn, ha, Int.toNat_natCast, Int.toNat_natCast, h1, Option.bind_some]
      exact h4
    · rw [h6, h3, List.any_cons, hcv, Bool.or_assoc]
theorem marks_ap {N : Nat} {rs : List Rf} (hr : ∀ r ∈ rs, rightV r.f0 r.f1 (N : Int) = true) (hp : rs.Pairwise Ap) (h2 : ∀ r ∈ rs, 2 ≤ r.f0) : ∃ out, marks (withM rs) (N : Int) = some out ∧ out.length = N ∧ ∀ i, i < N → out[i]? = some (decide (i < 2) || rs.any (fun r => covers r i)) := by
  have hsl : (Mni.start N).length = N := start_len N
  have hsg : ∀ i, i < N → (Mni.start N).getD i false = decide (i < 2) := fun i hi => by rw [List.getD_eq_getElem?_getD, start_get N i hi]; rfl
  obtain ⟨out, h1, h2', h3⟩ := markR_gen N rs (Mni.start N) hsl hr hp (fun r hm i hi => by
    have a1 := h2 r hm
    have a2 := rightV_iff.1 (hr r hm)
    unfold cov at hi
    rw [hsg i (by omega)]
    exact decide_eq_false (by omega))
  refine ⟨out, ?_, h2', fun i hi => ?_⟩
  · show markR (N : Int) rs (Mni.start (N : Int).toNat) = _
    rw [Int.toNat_natCast]
    exact h1
  · have e := h3 i
    rw [hsg i hi, List.getD_eq_getElem?_getD, List.getElem?_eq_getElem (by omega)] at e
    rw [List.getElem?_eq_getElem (by omega)]
    exact congrArg some e
theorem right_marks {N : Nat} {rs : List Rf} {out : List Bool} (h5 : marks (withM rs) (N : Int) = some out) (h2 : 2 ≤ N) (h3 : N ≤ 2048) (hl : rs.length ≤ 8) : rightM (withM rs) (N : Int) = true := by
  have hst : stacks (withM rs) = [upTo rs.length] := rfl
  obtain ⟨nm, h4⟩ := markS_mk rs.length [upTo rs.length] (List.replicate rs.length false) (fun l hl => by
    rw [List.mem_singleton] at hl
    subst hl
    exact ⟨fun x hx => upTo_mem.1 hx, upTo_nodup _⟩)
  have h4' : named (withM rs) = some nm := h4
  obtain ⟨f1, _, f3⟩ := named_fine h4'
  have hcf : nm.contains false = false := by
    rw [Bool.eq_false_iff]
    intro hcc
    rw [List.contains_iff_mem] at hcc
    obtain ⟨j, hj, e⟩ := List.getElem_of_mem hcc
    have z := (f3 j (by rw [← f1]; exact hj)).2 ⟨upTo rs.length, by rw [hst]; exact List.mem_singleton.2 rfl, upTo_mem.2 ⟨by omega, by
      have : nm.length = rs.length := f1
      omega⟩⟩
    rw [List.getD_eq_getElem?_getD, List.getElem?_eq_getElem hj, e] at z
    cases z
  unfold rightM
  rw [h4', h5, decide_eq_true (by omega)]
  have hsz : sizedB (withM rs) = true := by
    unfold sizedB
    have : anyLong (withM rs).snaps = false := rfl
    rw [this, decide_eq_true]
    · rfl
    · refine ⟨?_, ?_, Nat.zero_le _, Int.le_refl _⟩
      · show rs.length ≤ 64
        omega
      · show (upTo rs.length).length ≤ 8
        rw [upTo_len]; exact hl
  rw [hsz, Option.getD_some, hcf]
  rfl
structure G (N : Nat) (s : St) (rs : List Rf) (ts : List ByteArray) (pt : List Rf) (fs : List ByteArray) : Prop where
  size : s.d.size = (N : Int)
  n8 : 8 ≤ N
  nn : N ≤ 2048
  rl : rs.length ≤ 8
  tl : ts.length = rs.length
  fl : fs.length = pt.length
  put : s.put = pt
  rt : (⟨s.gen, s.own.f0, s.own.f1, s.own.f2⟩ : Sl).Rt
  ap : (s.own :: (rs ++ pt)).Pairwise Ap
  slot : s.d.firm (s.gen % 2) = (⟨s.gen, s.own.f0, s.own.f1, s.own.f2⟩ : Sl).lay
  oth : (slotOf (s.d.firm ((s.gen + 1) % 2))).g < s.gen
  own : ∃ n, Txt (frm s.d) s.own (layM (withM rs)) n
  txt : ∀ (i : Nat) (r : Rf) (t : ByteArray), rs[i]? = some r → ts[i]? = some t → ∃ n, Txt (frm s.d) r t n
  fr : ∀ (i : Nat) (r : Rf) (t : ByteArray), pt[i]? = some r → fs[i]? = some t → ∃ n, Txt s.d r t n
  soft : ∀ x ∈ s.d.soft, 2 ≤ x.1 ∧ ∀ r ∈ s.own :: rs, ¬ cov r x.1
  keys : ∀ r ∈ keys s, 0 ≤ r.f0 ∧ r.f0 ≤ 1000000
  sums : ∀ r ∈ rs ++ pt, 0 ≤ r.f2 ∧ r.f2 ≤ 4294967295
theorem get_lt {α : Type} {l : List α} {x : α} (h : x ∈ l) : ∃ i, i < l.length ∧ l[i]? = some x := by
  obtain ⟨i, hi, e⟩ := List.getElem_of_mem h
  exact ⟨i, hi, by rw [List.getElem?_eq_getElem hi, e]⟩
theorem get_some {α : Type} {l : List α} {i : Nat} (h : i < l.length) : ∃ x, l[i]? = some x := ⟨l[i], List.getElem?_eq_getElem h⟩
variable {N : Nat} {s : St} {rs : List Rf} {ts : List ByteArray} {pt : List Rf} {fs : List ByteArray}
theorem G.read (h : G N s rs ts pt fs) (i : Nat) (r : Rf) (t : ByteArray) (hr : rs[i]? = some r) (ht : ts[i]? = some t) : ∃ n, Txt s.d r t n := by
  obtain ⟨n, hn⟩ := h.txt i r t hr ht
  exact ⟨n, hn.live (fun x hx => (h.soft x hx).2 r (List.mem_cons_of_mem _ (List.mem_of_getElem? hr)))⟩
theorem G.ownT (h : G N s rs ts pt fs) : ∃ n, Txt s.d s.own (layM (withM rs)) n := by
  obtain ⟨n, hn⟩ := h.own
  exact ⟨n, hn.live (fun x hx => (h.soft x hx).2 _ List.mem_cons_self)⟩
theorem G.mem (h : G N s rs ts pt fs) {r : Rf} (hr : r ∈ s.own :: (rs ++ pt)) : ∃ t n, Txt s.d r t n := by
  rcases List.mem_cons.1 hr with e | e
  · subst e
    obtain ⟨n, hn⟩ := h.ownT
    exact ⟨_, n, hn⟩
  · rcases List.mem_append.1 e with e | e
    · obtain ⟨i, hi, hg⟩ := get_lt e
      obtain ⟨t, ht⟩ := get_some (l := ts) (i := i) (by rw [h.tl]; exact hi)
      obtain ⟨n, hn⟩ := h.read i r t hg ht
      exact ⟨t, n, hn⟩
    · obtain ⟨i, hi, hg⟩ := get_lt e
      obtain ⟨t, ht⟩ := get_some (l := fs) (i := i) (by rw [h.fl]; exact hi)
      obtain ⟨n, hn⟩ := h.fr i r t hg ht
      exact ⟨t, n, hn⟩
theorem G.apR (h : G N s rs ts pt fs) : (rs ++ pt).Pairwise Ap := (List.pairwise_cons.1 h.ap).2
theorem G.marks (h : G N s rs ts pt fs) : ∃ out, marks (withM rs) (N : Int) = some out ∧ out.length = N ∧ ∀ i, i < N → out[i]? = some (decide (i < 2) || rs.any (fun r => covers r i)) :=
  marks_ap (fun r hr => by
    obtain ⟨t, n, hn⟩ := h.mem (List.mem_cons_of_mem _ (List.mem_append_left _ hr))
    rw [← h.size]
    exact hn.right) (List.pairwise_append.1 h.apR).1 (fun r hr => by
    obtain ⟨t, n, hn⟩ := h.mem (List.mem_cons_of_mem _ (List.mem_append_left _ hr))
    exact hn.x0)
theorem G.right (h : G N s rs ts pt fs) : rightM (withM rs) (N : Int) = true := by
  obtain ⟨out, h1, _⟩ := h.marks
  exact right_marks h1 (by have := h.n8; omega) h.nn h.rl
theorem G.ok (h : G N s rs ts pt fs) (hl : pt.length ≤ 1000000) : Ok (withM rs) s := by
  refine ⟨Nat.zero_le _, by show rs.length ≤ 1000000; have := h.rl; omega, by rw [h.size]; exact h.right, fun r hr => ?_, by rw [h.put]; exact hl⟩
  rcases List.mem_append.1 hr with e | e
  · rw [h.put] at e
    obtain ⟨t, n, hn⟩ := h.mem (r := r) (by
      rcases List.mem_cons.1 e with e | e
      · rw [e]; exact List.mem_cons_self
      · exact List.mem_cons_of_mem _ (List.mem_append_right _ e))
    have a1 := hn.x0
    have a2 := hn.x1
    have a3 := h.size
    have a4 := h.nn
    omega
  · exact h.keys r e
theorem G.len (h : G N s rs ts pt fs) : (used (withM rs) s).length = N := by
  obtain ⟨out, h1, h2, _⟩ := h.marks
  unfold used taken
  rw [markAll_len, h.size, h1]
  exact h2
theorem G.used (h : G N s rs ts pt fs) (i : Nat) (hi : i < N) : (used (withM rs) s)[i]? = some (decide (i < 2) || rs.any (fun r => covers r i) || (s.own :: s.put ++ Sto.keys s).any (fun r => covers r i)) := by
  obtain ⟨out, h1, h2, h3⟩ := h.marks
  unfold Sto.used taken
  rw [markAll_get, h.size, h1, Option.getD_some, h3 i hi]
  rfl
theorem G.free (h : G N s rs ts pt fs) {a n : Nat} (hN : a + n ≤ N) (hf : ∀ j, a ≤ j → j < a + n → (Sto.used (withM rs) s)[j]? = some false) (j : Int) (h1 : (a : Int) ≤ j) (h2 : j < (a : Int) + (n : Int)) : 2 ≤ j ∧ ∀ r ∈ s.own :: (rs ++ pt), ¬ cov r j := by
  obtain ⟨i, rfl⟩ : ∃ i : Nat, j = (i : Int) := ⟨j.toNat, by omega⟩
  have e := hf i (by omega) (by omega)
  rw [h.used i (by omega)] at e
  have e := Option.some.inj e
  rw [Bool.or_eq_false_iff, Bool.or_eq_false_iff] at e
  have e1 := of_decide_eq_false e.1.1
  refine ⟨by omega, fun r hr hc => ?_⟩
  have hcv : covers r i = true := by rw [covers_cov]; exact decide_eq_true hc
  have hno : ∀ (l : List Rf), l.any (fun r => covers r i) = false → r ∉ l := fun l hl hm => by
    have : l.any (fun r => covers r i) = true := List.any_eq_true.2 ⟨r, hm, hcv⟩
    rw [hl] at this
    cases this
  rcases List.mem_cons.1 hr with q | q
  · exact hno _ e.2 (List.mem_append_left _ (by rw [q]; exact List.mem_cons_self))
  · rcases List.mem_append.1 q with q | q
    · exact hno _ e.1.2 q
    · exact hno _ e.2 (List.mem_append_left _ (List.mem_cons_of_mem _ (by rw [h.put]; exact q)))
theorem G.bud (h : G N s rs ts pt fs) (b : Int) (c : Bool) : G N { s with d := { s.d with budget := b, down := c } } rs ts pt fs :=
  ⟨h.size, h.n8, h.nn, h.rl, h.tl, h.fl, h.put, h.rt, h.ap, h.slot, h.oth, h.own.imp (fun _ q => q.on rfl (fun _ _ => rfl)), fun i r t h1 h2 => (h.txt i r t h1 h2).imp (fun _ q => q.on rfl (fun _ _ => rfl)), fun i r t h1 h2 => (h.fr i r t h1 h2).imp (fun _ q => q.on rfl (fun _ _ => rfl)), h.soft, h.keys, h.sums⟩
theorem G.hold (h : G N s rs ts pt fs) (H : List (Rf × Int)) (hk : ∀ r ∈ Sto.keys { s with held := H }, 0 ≤ r.f0 ∧ r.f0 ≤ 1000000) : G N { s with held := H } rs ts pt fs :=
  ⟨h.size, h.n8, h.nn, h.rl, h.tl, h.fl, h.put, h.rt, h.ap, h.slot, h.oth, h.own, h.txt, h.fr, h.soft, hk, h.sums⟩
theorem G.forget (h : G N s rs ts pt fs) : G N { s with put := [] } rs ts [] [] :=
  ⟨h.size, h.n8, h.nn, h.rl, h.tl, rfl, rfl, h.rt, by
    rw [List.append_nil]
    exact List.Pairwise.sublist (List.Sublist.cons_cons _ (List.sublist_append_left _ _)) h.ap, h.slot, h.oth, h.own, h.txt, fun i r t h1 => by simp at h1, h.soft, h.keys, fun r hr => h.sums r (by rw [List.append_nil] at hr; exact List.mem_append_left _ hr)⟩
theorem G.wrote (h : G N s rs ts pt fs) {a n : Nat} (hN : a + n ≤ N) (hf : ∀ j, a ≤ j → j < a + n → (Sto.used (withM rs) s)[j]? = some false) (t : ByteArray) (k : Nat) (hk : k ≤ n) (b : Int) : G N { s with d := { s.d with soft := s.d.soft ++ Blb.pgs t (a : Int) k, budget := b } } rs ts pt fs := by
  have hfree := fun j h1 h2 => h.free hN hf j h1 h2
  refine ⟨h.size, h.n8, h.nn, h.rl, h.tl, h.fl, h.put, h.rt, h.ap, h.slot, h.oth, h.own.imp (fun _ q => q.on rfl (fun _ _ => rfl)), fun i r t h1 h2 => (h.txt i r t h1 h2).imp (fun _ q => q.on rfl (fun _ _ => rfl)), fun i r t' h1 h2 => ?_, fun x hx => ?_, h.keys, h.sums⟩
  · obtain ⟨m, hm⟩ := h.fr i r t' h1 h2
    refine ⟨m, hm.on rfl (fun j hj => ?_)⟩
    show rd { s.d with soft := s.d.soft ++ Blb.pgs t (a : Int) k } j = _
    rw [Blb.rd_pgs, if_neg (fun q => (hfree j q.1 (by omega)).2 r (List.mem_cons_of_mem _ (List.mem_append_right _ (List.mem_of_getElem? h1))) hj)]
  · rcases List.mem_append.1 hx with q | q
    · exact h.soft x q
    · have z := pgs_at t a k x q
      have y := hfree x.1 z.1 (by omega)
      refine ⟨y.1, fun r hr => y.2 r ?_⟩
      rcases List.mem_cons.1 hr with e | e
      · rw [e]; exact List.mem_cons_self
      · exact List.mem_cons_of_mem _ (List.mem_append_left _ e)
theorem new_txt (d : Dsk) (t : ByteArray) (n a : Nat) (b : Int) (ha : 2 ≤ a) (hn : (a : Int) + (n : Int) ≤ d.size) (h1 : 1 ≤ t.size) (h2 : t.size ≤ 16384) (hp : (t.size + 63) / 64 = n) : Txt { d with soft := d.soft ++ Blb.pgs t (a : Int) n, budget := b } ⟨(a : Int), (t.size : Int), AdM.sum t⟩ t n :=
  (Txt.new d t n a ha hn h1 h2 hp).on rfl (fun _ _ => rfl)
theorem ap_new (h : G N s rs ts pt fs) {a n : Nat} (hN : a + n ≤ N) (hf : ∀ j, a ≤ j → j < a + n → (Sto.used (withM rs) s)[j]? = some false) (t : ByteArray) (h1 : 1 ≤ t.size) (h2 : t.size ≤ 16384) (hp : (t.size + 63) / 64 = n) (r : Rf) (hr : r ∈ s.own :: (rs ++ pt)) : Ap ⟨(a : Int), (t.size : Int), AdM.sum t⟩ r := fun j q1 q2 => by
  have e : pagesV (t.size : Int) = (((t.size + 63) / 64 : Nat) : Int) := Blb.pages_of t h1 h2
  rw [hp] at e
  have q1' : (a : Int) ≤ j ∧ j < (a : Int) + pagesV (t.size : Int) := q1
  rw [e] at q1'
  exact (h.free hN hf j q1'.1 q1'.2).2 r hr q2
theorem G.more (h : G N s rs ts pt fs) {a n : Nat} (hN : a + n ≤ N) (hf : ∀ j, a ≤ j → j < a + n → (Sto.used (withM rs) s)[j]? = some false) (t : ByteArray) (h1 : 1 ≤ t.size) (h2 : t.size ≤ 16384) (hp : (t.size + 63) / 64 = n) (b : Int) : G N { s with d := { s.d with soft := s.d.soft ++ Blb.pgs t (a : Int) n, budget := b }, put := s.put ++ [⟨(a : Int), (t.size : Int), AdM.sum t⟩] } rs ts (pt ++ [⟨(a : Int), (t.size : Int), AdM.sum t⟩]) (fs ++ [t]) := by
  have g := h.wrote hN hf t n (Nat.le_refl _) b
  have hz := Slt.sum_lt t
  have h2a := (h.free hN hf a (by omega) (by omega)).1
  refine ⟨g.size, g.n8, g.nn, g.rl, g.tl, by rw [List.length_append, List.length_append, h.fl]; rfl, ?_, g.rt, ?_, g.slot, g.oth, g.own, g.txt, fun i r t' hr ht => ?_, g.soft, g.keys, fun r hr => ?_⟩
  · show s.put ++ [_] = _
    rw [h.put]
  · show (s.own :: (rs ++ (pt ++ [_]))).Pairwise Ap
    rw [← List.append_assoc, ← List.cons_append]
    refine List.pairwise_append.2 ⟨h.ap, List.pairwise_singleton _ _, fun x hx y hy => ?_⟩
    rw [List.mem_singleton] at hy
    subst hy
    exact (ap_new h hN hf t h1 h2 hp x hx).symm
  · rcases Nat.lt_or_ge i pt.length with hij | hij
    · rw [List.getElem?_append_left hij] at hr
      rw [List.getElem?_append_left (by rw [h.fl]; exact hij)] at ht
      exact g.fr i r t' hr ht
    · rw [List.getElem?_append_right hij] at hr
      rw [List.getElem?_append_right (by rw [h.fl]; exact hij), h.fl] at ht
      obtain ⟨e, he⟩ : ∃ e, i - pt.length = e := ⟨_, rfl⟩
      rw [he] at hr ht
      cases e with
      | zero =>
        simp at hr ht
        subst hr ht
        exact ⟨n, new_txt s.d t n a b (by omega) (by rw [h.size]; omega) h1 h2 hp⟩
      | succ e => simp at hr
  · rw [← List.append_assoc] at hr
    rcases List.mem_append.1 hr with e | e
    · exact h.sums r e
    · rw [List.mem_singleton] at e
      subst e
      exact ⟨hz.1, by show AdM.sum t ≤ 4294967295; omega⟩
theorem G.flush (h : G N s rs ts pt fs) : G N { s with d := flushed s.d } rs ts pt fs := by
  have hk : ∀ j, (∀ x ∈ s.d.soft, x.1 ≠ j) → rd s.d j = s.d.firm j := rd_out s.d
  have hs : ∀ j : Int, j < 2 → rd s.d j = s.d.firm j := fun j hj => hk j (fun x hx e => by have := (h.soft x hx).1; omega)
  refine ⟨h.size, h.n8, h.nn, h.rl, h.tl, h.fl, h.put, h.rt, h.ap, (hs _ (by omega)).trans h.slot, ?_, ?_, fun i r t h1 h2 => ?_, fun i r t h1 h2 => ?_, fun x hx => (List.not_mem_nil hx).elim, h.keys, h.sums⟩
  · show (slotOf (rd s.d ((s.gen + 1) % 2))).g < s.gen
    rw [hs _ (by omega)]
    exact h.oth
  · exact h.ownT.imp (fun _ q => q.on rfl (fun _ _ => rfl))
  · exact (h.read i r t h1 h2).imp (fun _ q => q.on rfl (fun _ _ => rfl))
  · exact (h.fr i r t h1 h2).imp (fun _ q => q.on rfl (fun _ _ => rfl))
def swB (s : St) (a : Int) (t : ByteArray) (n : Nat) : St := { d := switched { s.d with soft := s.d.soft ++ Blb.pgs t a n, budget := Blb.bud s.d.budget n } ⟨s.gen + 1, a, (t.size : Int), AdM.sum t⟩, gen := s.gen + 1, own := ⟨a, (t.size : Int), AdM.sum t⟩, put := [], held := s.held }
theorem pairwise_sub {l1 l2 : List Rf} (h : l1.Sublist l2) (h2 : l2.Pairwise Ap) : l1.Pairwise Ap := h2.sublist h
theorem G.switch (h : G N s rs ts pt fs) {a n : Nat} (hN : a + n ≤ N) (hf : ∀ j, a ≤ j → j < a + n → (Sto.used (withM rs) s)[j]? = some false) {t : ByteArray} (h1 : 1 ≤ t.size) (h2 : t.size ≤ 16384) (hp : (t.size + 63) / 64 = n) {rs2 : List Rf} {ts2 : List ByteArray} (hsub : ∀ r ∈ rs2, r ∈ rs ++ pt) (hap : rs2.Pairwise Ap) (h8 : rs2.length ≤ 8) (htl : ts2.length = rs2.length) (htx : ∀ (i : Nat) (r : Rf) (t : ByteArray), rs2[i]? = some r → ts2[i]? = some t → ∃ n, Txt s.d r t n) (hM : layM (withM rs2) = t) (hg : s.gen < 4294967295) : G N (swB s (a : Int) t n) rs2 ts2 [] [] := by
  have hfree := fun j q1 q2 => h.free hN hf j q1 q2
  have hz := Slt.sum_lt t
  have h2a := (h.free hN hf a (by omega) (by omega)).1
  have hg0 : 0 < s.gen := h.rt.g0
  have hnn := h.nn
  have hrt2 : (⟨s.gen + 1, (a : Int), (t.size : Int), AdM.sum t⟩ : Sl).Rt := ⟨by show 0 < s.gen + 1; omega, by show s.gen + 1 < 4294967296; omega, by show (0 : Int) ≤ (a : Int); omega, by show (a : Int) ≤ 2048; omega, by show (0 : Int) ≤ (t.size : Int); omega, by show (t.size : Int) ≤ 16384; omega, hz.1, hz.2⟩
  have hrd : ∀ j : Int, 2 ≤ j → rd (swB s (a : Int) t n).d j = rd { s.d with soft := s.d.soft ++ Blb.pgs t (a : Int) n } j := fun j hj => by
    show rd (switched _ (⟨s.gen + 1, (a : Int), (t.size : Int), AdM.sum t⟩ : Sl)) j = _
    rw [Slt.rd_switched, if_neg (by show ¬ (j = (s.gen + 1) % 2); omega)]
    rfl
  have hkeep : ∀ r ∈ rs ++ pt, ∀ t' m, Txt s.d r t' m → Txt (frm (swB s (a : Int) t n).d) r t' m := fun r hr t' m hm => by
    refine hm.on rfl (fun j hj => ?_)
    have hx := hm.x0
    have e : rd (frm (swB s (a : Int) t n).d) j = rd (swB s (a : Int) t n).d j := rfl
    have hj2 : 2 ≤ j := by have := hj.1; omega
    rw [e, hrd j hj2, Blb.rd_pgs, if_neg (fun q => (hfree j q.1 q.2).2 r (List.mem_cons_of_mem _ hr) hj)]
  refine ⟨h.size, h.n8, h.nn, h8, htl, rfl, rfl, hrt2, ?_, ?_, ?_, ⟨n, ?_⟩, fun i r t' hr ht => ?_, fun i r t' hr => by simp at hr, fun x hx => (List.not_mem_nil hx).elim, h.keys, fun r hr => ?_⟩
  · rw [List.append_nil]
    exact List.pairwise_cons.2 ⟨fun r hr => ap_new h hN hf t h1 h2 hp r (List.mem_cons_of_mem _ (hsub r hr)), hap⟩
  · show Dk.upd (rd _) ((s.gen + 1) % 2) (⟨s.gen + 1, (a : Int), (t.size : Int), AdM.sum t⟩ : Sl).lay ((s.gen + 1) % 2) = _
    unfold Dk.upd
    rw [if_pos rfl]
    rfl
  · have e : (swB s (a : Int) t n).d.firm (((swB s (a : Int) t n).gen + 1) % 2) = (⟨s.gen, s.own.f0, s.own.f1, s.own.f2⟩ : Sl).lay := by
      show Dk.upd (rd { s.d with soft := s.d.soft ++ Blb.pgs t (a : Int) n }) ((s.gen + 1) % 2) (⟨s.gen + 1, (a : Int), (t.size : Int), AdM.sum t⟩ : Sl).lay ((s.gen + 1 + 1) % 2) = _
      unfold Dk.upd
      rw [if_neg (by omega), show (s.gen + 1 + 1) % 2 = s.gen % 2 by omega, Blb.rd_pgs, if_neg (by omega), rd_out s.d _ (fun x hx e => by have := (h.soft x hx).1; omega)]
      exact h.slot
    rw [e, Slt.slotOf_self h.rt]
    show s.gen < s.gen + 1
    omega
  · rw [hM]
    have hnew := new_txt s.d t n a (Blb.bud s.d.budget n) (by omega) (by rw [h.size]; omega) h1 h2 hp
    refine hnew.on rfl (fun j hj => ?_)
    have e : rd (frm (swB s (a : Int) t n).d) j = rd (swB s (a : Int) t n).d j := rfl
    have hj2 : 2 ≤ j := by have : (a : Int) ≤ j := hj.1; omega
    rw [e, hrd j hj2]
    rfl
  · have hm := hsub r (List.mem_of_getElem? hr)
    obtain ⟨m, hm2⟩ := htx i r t' hr ht
    exact ⟨m, hkeep r hm t' m hm2⟩
  · rw [List.append_nil] at hr
    exact h.sums r (hsub r hr)
theorem G.crash (h : G N s rs ts pt fs) (mask : Nat) (b : Int) (c : Bool) : G N (sO { s.d with firm := stl mask s.d.firm s.d.soft 0, soft := [], down := c, budget := b } ⟨s.gen, s.own.f0, s.own.f1, s.own.f2⟩) rs ts [] [] := by
  have hs : ∀ j : Int, j < 2 → stl mask s.d.firm s.d.soft 0 j = s.d.firm j := fun j hj => stl_out mask j _ _ _ (fun x hx e => by have := (h.soft x hx).1; omega)
  have hk : ∀ r ∈ s.own :: rs, ∀ t m, Txt (frm s.d) r t m → Txt (frm (sO { s.d with firm := stl mask s.d.firm s.d.soft 0, soft := [], down := c, budget := b } ⟨s.gen, s.own.f0, s.own.f1, s.own.f2⟩).d) r t m := fun r hr t m hm =>
    hm.on rfl (fun j hj => stl_out mask j _ _ _ (fun x hx e => (h.soft x hx).2 r hr (e ▸ hj)))
  refine ⟨h.size, h.n8, h.nn, h.rl, h.tl, rfl, rfl, h.rt, ?_, ?_, ?_, ?_, fun i r t h1 h2 => ?_, fun i r t h1 => by simp at h1, fun x hx => (List.not_mem_nil hx).elim, fun r hr => (List.not_mem_nil hr).elim, fun r hr => h.sums r (by rw [List.append_nil] at hr; exact List.mem_append_left _ hr)⟩
  · rw [List.append_nil]
    exact List.Pairwise.sublist (List.Sublist.cons_cons _ (List.sublist_append_left _ _)) h.ap
  · exact (hs _ (by show s.gen % 2 < 2; omega)).trans h.slot
  · show (slotOf (stl mask s.d.firm s.d.soft 0 ((s.gen + 1) % 2))).g < s.gen
    rw [hs _ (by omega)]
    exact h.oth
  · obtain ⟨m, hm⟩ := h.own
    exact ⟨m, hk _ List.mem_cons_self _ m hm⟩
  · obtain ⟨m, hm⟩ := h.txt i r t h1 h2
    exact ⟨m, hk r (List.mem_cons_of_mem _ (List.mem_of_getElem? h1)) t m hm⟩
theorem G.best (h : G N s rs ts pt fs) : bestOf s.d 2 = ⟨s.gen, s.own.f0, s.own.f1, s.own.f2⟩ := by
  have hs : ∀ j : Int, j < 2 → rd s.d j = s.d.firm j := fun j hj => rd_out s.d j (fun x hx e => by have := (h.soft x hx).1; omega)
  have hg0 : 0 < s.gen := h.rt.g0
  have h1 := h.slot
  have h2 := h.oth
  rw [Slt.bestOf_two, hs 0 (by decide), hs 1 (by decide)]
  rcases (by omega : s.gen % 2 = 0 ∨ s.gen % 2 = 1) with e | e
  · rw [e] at h1
    rw [show (s.gen + 1) % 2 = 1 by omega] at h2
    rw [h1, Slt.slotOf_self h.rt, Slt.pick_z hg0]
    unfold Slt.pick
    exact if_neg (by show ¬ s.gen < _; omega)
  · rw [e] at h1
    rw [show (s.gen + 1) % 2 = 0 by omega] at h2
    rw [h1, Slt.slotOf_self h.rt]
    unfold Slt.pick
    refine if_pos ?_
    show (if (0 : Int) < (slotOf (s.d.firm 0)).g then slotOf (s.d.firm 0) else Sl.zero).g < s.gen
    split
    · exact h2
    · exact hg0
end Go.Proofs.YtaodgnladjafoaaGreatDoor.Sto
