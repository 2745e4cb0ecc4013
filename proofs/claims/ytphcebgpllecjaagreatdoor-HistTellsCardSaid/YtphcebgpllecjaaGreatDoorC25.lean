/-
  Plain laws of layer 8: what is parsed may be, and may be shown; a history with one more, or one less; no program in sight.
-/
import Derived.Test.YtphcebgpllecjaaGreatDoorC09
set_option linter.unusedVariables false
set_option linter.unusedSimpArgs false
namespace Go.Proofs.YtphcebgpllecjaaGreatDoor
open Go.RowKit Go.Inq

theorem nodup_le : ∀ {l l' : List Int}, l.Nodup → (∀ x ∈ l, x ∈ l') → l.length ≤ l'.length
  | [], l', _, _ => Nat.zero_le _
  | x :: r, l', hn, hs => by
    rw [List.nodup_cons] at hn
    have hx := hs x (by simp)
    have := nodup_le (l := r) (l' := l'.erase x) hn.2 fun y hy => (List.mem_erase_of_ne (by rintro rfl; exact hn.1 hy)).2 (hs y (List.mem_cons_of_mem _ hy))
    rw [List.length_erase_of_mem hx] at this
    have := List.length_pos_of_mem hx
    simp only [List.length_cons]
    omega
theorem rise_nodup {l : List It} (h : l.Pairwise fun x y => x.a < y.a) : (l.map (·.a)).Nodup := by
  unfold List.Nodup
  rw [List.pairwise_map]
  exact h.imp fun g => by omega
/-- A transaction reads and writes no more keys than it has ops. -/
theorem look_le (l : List Ev) : (readsTo l 16).length + (writesTo l 16).length ≤ l.length := by
  have hr := rising (g := readOf l) readOf_key 16
  have hw := rising (g := writeOf l) writeOf_key 16
  have h1 : (readsTo l 16).length ≤ ((l.filter fun e => e.kind == 1).map (·.key)).length := by
    have := nodup_le (l := (readsTo l 16).map (·.a)) (l' := (l.filter fun e => e.kind == 1).map (·.key)) (rise_nodup hr.1) fun k hk => by
      obtain ⟨y, hy, rfl⟩ := List.mem_map.1 hk
      obtain ⟨q, hq, hro⟩ := mem_readsTo.1 hy
      have hya := readOf_key _ _ hro
      unfold readOf at hro
      split at hro
      · rename_i hc
        rcases firstA_eq l (q : Int) _ (Nat.le_refl _) with ⟨_, g⟩ | ⟨i, hi, _, h2, h3, _⟩
        · rw [firstA_all] at g; omega
        · rw [firstA_all] at h2
          have hc2 := hc.2
          unfold kindAt at hc2
          rw [h2, Int.toNat_natCast, List.getElem?_eq_getElem hi] at hc2
          refine List.mem_map.2 ⟨l[i], List.mem_filter.2 ⟨List.getElem_mem hi, by simpa using hc2⟩, ?_⟩
          rw [h3, hya]
      · cases hro
    rwa [List.length_map] at this
  have h2 : (writesTo l 16).length ≤ ((l.filter fun e => e.kind == 2).map (·.key)).length := by
    have := nodup_le (l := (writesTo l 16).map (·.a)) (l' := (l.filter fun e => e.kind == 2).map (·.key)) (rise_nodup hw.1) fun k hk => by
      obtain ⟨y, hy, rfl⟩ := List.mem_map.1 hk
      obtain ⟨q, hq, hro⟩ := mem_writesTo.1 hy
      obtain ⟨g1, e, he, hw⟩ := writeOf_some hro
      obtain ⟨w1, w2, w3⟩ := (isW_iff _ _).1 hw
      exact List.mem_map.2 ⟨e, List.mem_filter.2 ⟨he, by simpa using w1⟩, w2⟩
    rwa [List.length_map] at this
  have h3 : ∀ l : List Ev, (l.filter fun e => e.kind == 1).length + (l.filter fun e => e.kind == 2).length ≤ l.length := by
    intro l
    induction l with
    | nil => simp
    | cons x r ih =>
      rw [List.filter_cons, List.filter_cons]
      simp only [beq_iff_eq] at ih ⊢
      split <;> split <;> simp only [List.length_cons] at ih ⊢ <;> omega
  have := h3 l
  rw [List.length_map] at h1 h2
  omega

def txW (t : Tx) : Nat := t.ops.length + 1 + (if t.done = true then 1 else 0)
def sumT (l : List Tx) : Nat := (l.map txW).sum
theorem txW_add (t : Tx) (e : Ev) : txW (addOp t e) = txW t + 1 := by unfold txW addOp; simp; omega
theorem txW_shut (t : Tx) (b : Bool) (h : t.done = false) : txW (shutT t b) ≤ txW t + 1 := by unfold txW shutT; rw [h]; cases b <;> simp
theorem sumT_snoc (l : List Tx) (t : Tx) : sumT (l ++ [t]) = sumT l + txW t := by unfold sumT; simp
theorem sumT_set : ∀ (l : List Tx) (k : Nat) (t u : Tx), l[k]? = some u → sumT (l.set k t) + txW u = sumT l + txW t
  | [], _, _, _, h => by simp at h
  | x :: r, 0, t, u, h => by simp at h; subst h; simp [sumT]; omega
  | x :: r, k + 1, t, u, h => by
    have := sumT_set r k t u (by simpa using h)
    simp [sumT] at this ⊢
    omega
/-- Open ones are not done yet. -/
def OpenNot (g : Grp) : Prop := ∀ (k : Nat) (t : Tx), g.out[k]? = some t → g.opn[k]? = some true → t.done = false
theorem grp_sum (l : List Ev) : ∀ n, sumT (grpTo l n).out ≤ n ∧ OpenNot (grpTo l n)
  | 0 => ⟨by simp [grpTo, sumT], fun k t h => by simp [grpTo] at h⟩
  | n + 1 => by
    obtain ⟨i1, i2⟩ := grp_sum l n
    have hlen := grpTo_len l n
    rw [grpTo]
    cases he : l[n]? with
    | none => exact ⟨Nat.le_succ_of_le i1, i2⟩
    | some e =>
      dsimp only
      generalize grpTo l n = g at *
      unfold Grp.next
      by_cases h0 : e.kind = 0
      · rw [if_pos h0]
        dsimp only
        rw [sumT_snoc]
        refine ⟨by simp [txW]; omega, fun k t h1 h2 => ?_⟩
        dsimp only at h1 h2
        rcases Nat.lt_or_ge k g.out.length with q | q
        · rw [List.getElem?_append_left q] at h1
          rw [List.getElem?_append_left (by omega)] at h2
          exact i2 k t h1 h2
        · rw [List.getElem?_append_right q] at h1
          cases hk : k - g.out.length with
          | zero => rw [hk] at h1; simp at h1; rw [← h1]
          | succ m => rw [hk] at h1; simp at h1
      · rw [if_neg h0]
        cases ha : g.at_ e.sess with
        | none => exact ⟨Nat.le_succ_of_le i1, i2⟩
        | some k =>
          obtain ⟨q1, q2, q3, q4⟩ := Grp.at_lt ha
          have hk : g.out[k]? = some g.out[k] := List.getElem?_eq_getElem q1
          have hd := i2 k _ hk q3
          dsimp only
          rw [hk]
          split
          · dsimp only
            have h5 := sumT_set g.out k (addOp g.out[k] e) _ hk
            have h6 := txW_add g.out[k] e
            refine ⟨by simp only [Option.getD_some]; omega, fun j t h1 h2 => ?_⟩
            dsimp only at h1 h2
            rw [List.getElem?_set] at h1
            split at h1
            · injection h1 with h1; rw [← h1]; exact hd
            · exact i2 j t h1 h2
          · dsimp only
            have h5 := sumT_set g.out k (shutT g.out[k] (decide (e.kind = 3))) _ hk
            have h6 := txW_shut g.out[k] (decide (e.kind = 3)) hd
            refine ⟨by simp only [Option.getD_some]; omega, fun j t h1 h2 => ?_⟩
            dsimp only at h1 h2
            rw [List.getElem?_set] at h2
            split at h2
            · cases h2
            · rename_i hne
              rw [List.getElem?_set_ne hne] at h1
              exact i2 j t h1 h2
/-- What is parsed: it comes of transactions. -/
theorem parseH_ok {s : List UInt8} (h : (parseH s).2.2 = 0) : ∃ T : List Tx, sumT T ≤ 400 ∧ (histR T).2.2 = 0 ∧ parseH s = ((histR T).1, 0, 0) := by
  unfold parseH at h ⊢
  split at h
  · rename_i g; exact absurd h g
  · rename_i g1
    split at h
    · rename_i g; exact absurd h g
    · rename_i g2
      split at h
      · rename_i g; exact absurd h g
      · rename_i g3
        rw [if_neg g1, if_neg g2, if_neg g3]
        refine ⟨_, ?_, by omega, rfl⟩
        have hl := diaryR_len s
        generalize (diaryR s).1 = l at *
        unfold groupR at g2 ⊢
        rcases firstN_ways l.length (grpBad l) with ⟨k, hk, _, hb, hs⟩ | ⟨hall, hs⟩
        · rw [hs] at g2 ⊢
          simp [sumT]
        · rw [hs]
          have := (grp_sum l l.length).1
          dsimp only
          omega
theorem histR_ok {T : List Tx} (h : (histR T).2.2 = 0) : T.length ≤ 32 ∧ (∀ j, j < T.length → mayAt T j = 0) ∧ (∀ j, j < T.length → unlikeR T j = 0) ∧ (∀ j, j < T.length → lookAt T j = 0) ∧ (∀ j, j < T.length → oneAt T j = 0) ∧ histR T = (txnsTo T T.length, 0, 0) := by
  by_cases h0 : 32 < T.length
  · rw [histR_many h0] at h; cases h
  rcases firstN_ways T.length (mayAt T) with ⟨k, hk, hj, hb, _⟩ | ⟨h1, _⟩
  · rw [histR_may h0 hk hj hb] at h; exact absurd h hb
  rcases firstN_ways T.length (unlikeR T) with ⟨k, hk, hj, hb, _⟩ | ⟨h2, _⟩
  · rw [histR_unlike h0 h1 hk hj hb] at h; exact absurd h hb
  rcases firstN_ways T.length (lookAt T) with ⟨k, hk, hj, hb, _⟩ | ⟨h3, _⟩
  · rw [histR_look h0 h1 h2 hk hj hb] at h; exact absurd h hb
  rcases firstN_ways T.length (oneAt T) with ⟨k, hk, hj, hb, _⟩ | ⟨h4, _⟩
  · rw [histR_one h0 h1 h2 h3 hk hj hb] at h; exact absurd h hb
  exact ⟨by omega, h1, h2, h3, h4, histR_good h0 h1 h2 h3 h4⟩
theorem pairwise_step {l : List Int} (h : ∀ j (hj : j + 1 < l.length), l[j] < l[j + 1]) : l.Pairwise (· < ·) := by
  rw [List.pairwise_iff_getElem]
  intro i j hi hj hij
  induction j with
  | zero => omega
  | succ j ih =>
    have := h j hj
    by_cases e : i = j
    · subst e; exact this
    · have := ih (by omega) (by omega); omega
/-- A history that is told may be. -/
theorem hist_right {T : List Tx} (h : (histR T).2.2 = 0) : rightH (histR T).1 = true := by
  obtain ⟨h0, h1, h2, h3, h4, h5⟩ := histR_ok h
  rw [h5]
  dsimp only
  have hr := right_hist h2 h3 h4
  have hlen := txns_len T T.length
  have hle := num7_le T T.length
  refine (rightH_iff _).2 ⟨by omega, fun j hj => ?_⟩
  have ht := hr.at_ hj
  obtain ⟨i, hi, _, hd, hn⟩ := num7_onto T T.length (Nat.le_refl _) j (by omega)
  obtain ⟨_, hs⟩ := hr.sess i hi hd
  simp only [hn] at hs
  generalize hG : txnsTo T T.length = G at *
  have hpos : ∀ (k : Int), k ∈ G[j].writes → 0 ≤ k ∧ k < 16 := fun k hk => by
    obtain ⟨m, hm, rfl⟩ := List.getElem_of_mem hk
    exact ht.writes m hm
  refine ⟨pairwise_step ht.rise, hpos, pairwise_step fun m hm => ?_, fun x hx => ?_, fun x hx => ?_, ?_⟩
  · rw [List.length_map] at hm
    rw [List.getElem_map, List.getElem_map]
    exact ht.rrise m hm
  · obtain ⟨m, hm, rfl⟩ := List.getElem_of_mem hx
    have := ht.reads m hm
    exact ⟨this.1, this.2.1⟩
  · obtain ⟨m, hm, rfl⟩ := List.getElem_of_mem hx
    have := ht.reads m hm
    rw [thereB_iff]
    by_cases e : (G[j].reads[m]).b = -1
    · exact .inl e
    · refine .inr ⟨(G[j].reads[m]).b.toNat, by omega, by omega, by omega, ht.there m hm _ (by omega) (by omega)⟩
  · rw [hs]
    have := h1 i hi
    unfold mayAt at this
    rw [List.getElem?_eq_getElem hi] at this
    dsimp only at this
    split at this
    · rename_i hm
      unfold mayT belowB at hm
      simp at hm
      exact hm.2
    · cases this
theorem eventsR_len (L : List Tx) : (eventsR L).length = (L.map fun t => t.ops.length + 2).sum := by
  unfold eventsR
  rw [List.length_flatten, List.map_map]
  congr 1
  refine List.map_congr_left fun t _ => ?_
  simp [txEvents]
/-- A history that is told has no more events than its transactions. -/
theorem hist_events {T : List Tx} (h : (histR T).2.2 = 0) : (eventsR (txsOf (histR T).1)).length ≤ sumT T := by
  obtain ⟨h0, h1, h2, h3, h4, h5⟩ := histR_ok h
  rw [h5]
  dsimp only
  rw [eventsR_len]
  have e1 : (txsOf (txnsTo T T.length)).map (fun t => t.ops.length + 2) = (txnsTo T T.length).map fun t => t.reads.length + t.writes.length + 2 := by
    refine List.ext_getElem (by simp [txsOf_len]) fun i g1 g2 => ?_
    rw [List.getElem_map, List.getElem_map, txsOf_at]
    simp [txOf, opsOf]
  rw [e1]
  unfold txnsTo
  rw [List.take_length, List.map_map]
  have hall : ∀ t ∈ T, t.done = true → (oneR T t).1.reads.length + (oneR T t).1.writes.length ≤ t.ops.length := fun t ht hd => by
    obtain ⟨i, hi, rfl⟩ := List.getElem_of_mem ht
    rw [(one_zero h4 hi hd).1]
    have hg := (look_good (look_zero h3 hi hd)).1
    dsimp only
    rw [List.length_map, List.length_map, hg]
    exact look_le _
  clear e1 h0 h1 h2 h3 h4 h5 h
  generalize oneR T = f at *
  unfold sumT
  induction T with
  | nil => simp
  | cons t r ih =>
    have := ih fun u hu => hall u (List.mem_cons_of_mem _ hu)
    rw [List.filter_cons]
    cases hd : t.done with
    | false => simp only [Bool.false_eq_true, if_false, List.map_cons, List.sum_cons]; omega
    | true =>
      have h1 := hall t (by simp) hd
      have h2 : txW t = t.ops.length + 2 := by unfold txW; rw [if_pos hd]
      simp only [if_true, List.map_cons, List.sum_cons, Function.comp] at this ⊢
      omega
/-- What is parsed may be, and is shown; what is shown is parsed to the same. -/
theorem hist_only {s : List UInt8} (h : (parseH s).2.2 = 0) : (parseH s).2.1 = 0 ∧ rightH (parseH s).1 = true ∧ (showH (parseH s).1).2 = 0 := by
  obtain ⟨T, h1, h2, h3⟩ := parseH_ok h
  have hr := hist_right h2
  have hl := hist_events h2
  rw [h3]
  dsimp only
  refine ⟨rfl, hr, ?_⟩
  unfold showH
  rw [if_neg (by simp [hr]), showD_good (by omega) (events_right (shown_txs hr))]
theorem parseH_err {s : List UInt8} (h : (parseH s).2.2 ≠ 0) : (parseH s).1 = [] := by
  unfold parseH at h ⊢
  split
  · rfl
  · split
    · rfl
    · split
      · rfl
      · rename_i g1 g2 g3
        rw [if_neg g1, if_neg g2, if_neg g3] at h
        exact absurd rfl h

/-- One more, that is empty. -/
theorem right_more {H : List Txn} (h : rightH H = true) : rightH (H ++ [⟨3, [], []⟩]) = decide (H.length < 32) := by
  obtain ⟨h0, h1⟩ := (rightH_iff H).1 h
  rw [Bool.eq_iff_iff, rightH_iff, decide_eq_true_eq]
  refine ⟨fun g => by have := g.1; simp at this; omega, fun g => ⟨by simp; omega, fun j hj => ?_⟩⟩
  rw [List.length_append] at hj
  simp at hj
  by_cases e : j < H.length
  · rw [List.getElem_append_left e]
    have ht := h1 j e
    refine ⟨ht.wrise, ht.wkey, ht.rrise, ht.rkey, fun x hx => ?_, ht.sess⟩
    rcases (thereB_iff _ _ _).1 (ht.there x hx) with g | ⟨k, hk, g1, g2, g3⟩
    · exact (thereB_iff _ _ _).2 (.inl g)
    · exact (thereB_iff _ _ _).2 (.inr ⟨k, by rw [List.length_append]; omega, g1, g2, by rw [List.getElem_append_left hk]; exact g3⟩)
  · obtain rfl : j = H.length := by omega
    rw [List.getElem_append_right (Nat.le_refl _)]
    simp only [Nat.sub_self, List.getElem_cons_zero]
    exact ⟨by simp, by simp, by simp, by simp, by simp, by simp⟩
/-- Does one of the first n read from number n? -/
def readsN (H : List Txn) (n : Nat) : Bool := (H.take n).any fun t => t.reads.any fun x => x.b == (n : Int)
/-- The last one away. -/
theorem right_less {H : List Txn} (h : rightH H = true) {n : Nat} (hn : n + 1 = H.length) : rightH (H.take n) = !readsN H n := by
  obtain ⟨h0, h1⟩ := (rightH_iff H).1 h
  have hl : (H.take n).length = n := by rw [List.length_take]; omega
  cases hr : readsN H n with
  | true =>
    unfold readsN at hr
    rw [List.any_eq_true] at hr
    obtain ⟨t, ht, hr⟩ := hr
    rw [List.any_eq_true] at hr
    obtain ⟨x, hx, hb⟩ := hr
    have hb : x.b = (n : Int) := by simpa using hb
    rw [Bool.not_true, ← Bool.not_eq_true, rightH_iff]
    rintro ⟨_, g⟩
    obtain ⟨j, hj, rfl⟩ := List.getElem_of_mem ht
    rcases (thereB_iff _ _ _).1 ((g j hj).there x hx) with g | ⟨k, hk, g1, _⟩
    · omega
    · omega
  | false =>
    rw [Bool.not_false, rightH_iff]
    refine ⟨by omega, fun j hj => ?_⟩
    have hj' : j < H.length := by omega
    rw [List.getElem_take]
    have ht := h1 j hj'
    refine ⟨ht.wrise, ht.wkey, ht.rrise, ht.rkey, fun x hx => ?_, ht.sess⟩
    rcases (thereB_iff _ _ _).1 (ht.there x hx) with g | ⟨k, hk, g1, g2, g3⟩
    · exact (thereB_iff _ _ _).2 (.inl g)
    · have hkn : k ≠ n := by
        rintro rfl
        unfold readsN at hr
        rw [List.any_eq_false] at hr
        have := hr H[j] (List.mem_of_getElem? (i := j) (by rw [List.getElem?_take, if_pos (by omega), List.getElem?_eq_getElem hj']))
        rw [Bool.not_eq_true, List.any_eq_false] at this
        exact this x hx (by simpa using g1)
      exact (thereB_iff _ _ _).2 (.inr ⟨k, by omega, g1, g2, by rw [List.getElem_take]; exact g3⟩)
end Go.Proofs.YtphcebgpllecjaaGreatDoor

namespace Go.Proofs.YtphcebgpllecjaaGreatDoor
open Go.RowKit Go.Inq

theorem mem_set_ways {l : List Tx} {k : Nat} {a t : Tx} (h : t ∈ l.set k a) : t ∈ l ∨ t = a := List.mem_or_eq_of_mem_set h
theorem grp_first (l : List Ev) : ∀ n, ∀ t ∈ (grpTo l n).out, 0 ≤ t.first ∧ t.first < (n : Int) ∧ t.ops.length ≤ n
  | 0, t, h => by simp [grpTo] at h
  | n + 1, t, h => by
    have ih := grp_first l n
    rw [grpTo] at h
    cases hl : l[n]? with
    | none => rw [hl] at h; have := ih t h; omega
    | some e =>
      rw [hl] at h
      dsimp only at h
      unfold Grp.next at h
      by_cases h0 : e.kind = 0
      · rw [if_pos h0] at h
        rcases List.mem_append.1 h with h | h
        · have := ih t h; omega
        · simp at h; subst h; simp; omega
      · rw [if_neg h0] at h
        cases ha : (grpTo l n).at_ e.sess with
        | none => rw [ha] at h; have := ih t h; omega
        | some k =>
          have hk := (Grp.at_lt ha).1
          have hm := ih _ (List.getElem_mem hk)
          have hg : (grpTo l n).out[k]?.getD noTx = (grpTo l n).out[k] := by rw [List.getElem?_eq_getElem hk]; rfl
          rw [ha] at h
          dsimp only at h
          rw [hg] at h
          split at h
          · rcases mem_set_ways h with h | h
            · have := ih t h; omega
            · subst h; simp [addOp]; omega
          · rcases mem_set_ways h with h | h
            · have := ih t h; omega
            · subst h; simp only [shutT]; omega
theorem grp_many (l : List Ev) : ∀ n, (∀ j, j < n → grpBad l j = 0) → (grpTo l n).out.length ≤ 32
  | 0, _ => by simp [grpTo]
  | n + 1, h => by
    have ih := grp_many l n fun j hj => h j (by omega)
    have hb := h n (by omega)
    rw [grpTo]
    cases hl : l[n]? with
    | none => exact ih
    | some e =>
      unfold grpBad at hb
      rw [hl] at hb
      dsimp only at hb ⊢
      unfold Grp.bad at hb
      unfold Grp.next
      split at hb
      · cases hb
      · by_cases h0 : e.kind = 0
        · rw [if_pos h0] at hb ⊢
          split at hb
          · cases hb
          · split at hb
            · cases hb
            · simp; omega
        · rw [if_neg h0]
          split
          · exact ih
          · split <;> simp [ih]
structure Grouped (l : List Ev) : Prop where
  place : 0 ≤ (groupR l).2.1 ∧ (groupR l).2.1 ≤ (l.length : Int)
  many : (groupR l).1.length ≤ 32
  each : ∀ t ∈ (groupR l).1, 0 ≤ t.first ∧ t.first < (l.length : Int) ∧ t.ops.length ≤ l.length
theorem grouped (l : List Ev) : Grouped l := by
  rcases firstN_ways l.length (grpBad l) with ⟨k, hk, hj, hb, _⟩ | ⟨hall, _⟩
  · have e := groupR_bad hk hj hb
    exact ⟨by rw [e]; dsimp only; omega, by rw [e]; simp, by rw [e]; simp⟩
  · have e := groupR_good hall
    exact ⟨by rw [e]; dsimp only; omega, by rw [e]; exact grp_many l _ hall, by rw [e]; exact grp_first l _⟩
theorem hist_place {T : List Tx} (h : (histR T).2.2 ≠ 0) : ∃ k : Nat, (histR T).2.1 = (k : Int) ∧ k < T.length := by
  by_cases h0 : 32 < T.length
  · exact ⟨0, by rw [histR_many h0]; rfl, by omega⟩
  rcases firstN_ways T.length (mayAt T) with ⟨k, hk, hj, hb, _⟩ | ⟨h1, _⟩
  · exact ⟨k, by rw [histR_may h0 hk hj hb], hk⟩
  rcases firstN_ways T.length (unlikeR T) with ⟨k, hk, hj, hb, _⟩ | ⟨h2, _⟩
  · exact ⟨k, by rw [histR_unlike h0 h1 hk hj hb], hk⟩
  rcases firstN_ways T.length (lookAt T) with ⟨k, hk, hj, hb, _⟩ | ⟨h3, _⟩
  · exact ⟨k, by rw [histR_look h0 h1 h2 hk hj hb], hk⟩
  rcases firstN_ways T.length (oneAt T) with ⟨k, hk, hj, hb, _⟩ | ⟨h4, _⟩
  · exact ⟨k, by rw [histR_one h0 h1 h2 h3 hk hj hb], hk⟩
  rw [histR_good h0 h1 h2 h3 h4] at h
  exact absurd rfl h
theorem parseH_diary {s : List UInt8} {es : List Ev} {p f : Int} (hd : diaryR s = (es, p, f)) (h : f ≠ 0) : parseH s = ([], p, f) := by
  unfold parseH; rw [hd]; dsimp only; rw [if_pos h]
theorem parseH_group {s : List UInt8} {es : List Ev} {p : Int} (hd : diaryR s = (es, p, 0)) {T : List Tx} {q f : Int} (hg : groupR es = (T, q, f)) (h : f ≠ 0) : parseH s = ([], q + 1, f) := by
  unfold parseH; rw [hd]; dsimp only; rw [if_neg (by simp), hg]; dsimp only; rw [if_pos h]
theorem parseH_hist {s : List UInt8} {es : List Ev} {p : Int} (hd : diaryR s = (es, p, 0)) {T : List Tx} {q : Int} (hg : groupR es = (T, q, 0)) {H : List Txn} {k : Nat} {f : Int} (hh : histR T = (H, (k : Int), f)) (h : f ≠ 0) (hk : k < T.length) : parseH s = ([], T[k].first + 1, f) := by
  unfold parseH; rw [hd]; dsimp only; rw [if_neg (by simp), hg]; dsimp only; rw [if_neg (by simp), hh]; dsimp only; rw [if_pos h, Int.toNat_natCast, List.getElem?_eq_getElem hk]; rfl
theorem parseH_good {s : List UInt8} {es : List Ev} {p : Int} (hd : diaryR s = (es, p, 0)) {T : List Tx} {q : Int} (hg : groupR es = (T, q, 0)) {H : List Txn} {k : Int} (hh : histR T = (H, k, 0)) : parseH s = (H, 0, 0) := by
  unfold parseH; rw [hd]; dsimp only; rw [if_neg (by simp), hg]; dsimp only; rw [if_neg (by simp), hh]; dsimp only; rw [if_neg (by simp)]
end Go.Proofs.YtphcebgpllecjaaGreatDoor
