/-
  Plain laws of SourceNames and SourceGone: other values, told apart as they were; none that was given up. No program in sight.
-/
import Derived.Test.YtapkbinlhmddiaaSrc7R
set_option linter.unusedVariables false
set_option linter.unusedSimpArgs false
namespace Go.Proofs.Ytapkbinlhmddiaa
open Go.RowKit Go.Inq

def ren (b v : Int) : Int := if 0 < v then v + b else v
def renE (b : Int) (e : Ev) : Ev := { e with val := ren b e.val }
def renI (b : Int) (x : It) : It := { x with b := ren b x.b }
def renT (b : Int) (t : Tx) : Tx := { t with ops := t.ops.map (renE b) }
section
set_option linter.unusedSectionVars false
variable {b : Int} (hb : 0 ≤ b)
include hb
theorem ren_zero {v : Int} (hv : 0 ≤ v) : ren b v = 0 ↔ v = 0 := by unfold ren; split <;> omega
theorem ren_inj {v u : Int} (hv : 0 ≤ v) (hu : 0 ≤ u) : ren b v = ren b u ↔ v = u := by unfold ren; split <;> split <;> omega
theorem ren_pos {v : Int} (hv : 0 ≤ v) : 0 ≤ ren b v := by unfold ren; split <;> omega
theorem ren_beq {v u : Int} (hv : 0 ≤ v) (hu : 0 ≤ u) : (ren b v == ren b u) = (v == u) := by
  rw [Bool.eq_iff_iff]; simp [ren_inj hb hv hu]
theorem ren_right {e : Ev} (hv : 0 ≤ e.val) (hv2 : e.val ≤ 1000000) (hb2 : b ≤ 1000000) : (renE b e).right = e.right := by
  have h1 : belowB (ren b e.val) 2147483648 = true := by unfold belowB ren; simp; split <;> omega
  have h2 : belowB e.val 2147483648 = true := by unfold belowB; simp; omega
  have h3 : (ren b e.val == 0) = (e.val == 0) := by rw [Bool.eq_iff_iff]; simp [ren_zero hb hv]
  unfold Ev.right renE
  dsimp only
  rw [h1, h2, h3]
theorem isW_ren {x : It} {e : Ev} (hv : 0 ≤ e.val) (hx : 0 ≤ x.b) : isW (renI b x) (renE b e) = isW x e := by
  unfold isW renI renE
  dsimp only
  rw [ren_beq hb hv hx]
theorem wr_ren {ops : List Ev} (hv : ∀ e ∈ ops, 0 ≤ e.val) (n : Nat) {x : It} (hx : 0 ≤ x.b) : wr (ops.map (renE b)) n (renI b x) = wr ops n x := by
  unfold wr
  rw [← List.map_take, List.filter_map, List.length_map]
  congr 1
  refine List.filter_congr fun e he => ?_
  exact isW_ren hb (hv e (List.mem_of_mem_take he)) hx
theorem sumW_ren {l : List Tx} (hv : ∀ t ∈ l, ∀ e ∈ t.ops, 0 ≤ e.val) (n : Nat) {x : It} (hx : 0 ≤ x.b) : sumW (l.map (renT b)) n (renI b x) = sumW l n x := by
  unfold sumW
  rw [← List.map_take, List.map_map]
  congr 1
  refine List.map_congr_left fun t ht => ?_
  show wr (t.ops.map (renE b)) (t.ops.map (renE b)).length (renI b x) = wr t.ops t.ops.length x
  rw [List.length_map]
  exact wr_ren hb (hv t (List.mem_of_mem_take ht)) _ hx
theorem opE_ren {l : List Tx} (hv : ∀ t ∈ l, ∀ e ∈ t.ops, 0 ≤ e.val) (i : Nat) {ops : List Ev} (ho : ∀ e ∈ ops, 0 ≤ e.val) (j : Nat) : opE (l.map (renT b)) i (ops.map (renE b)) j = opE l i ops j := by
  unfold opE
  rw [List.getElem?_map]
  cases h : ops[j]? with
  | none => rfl
  | some e =>
    have he := ho e (List.mem_of_getElem? h)
    have e1 : (⟨(renE b e).key, (renE b e).val⟩ : It) = renI b ⟨e.key, e.val⟩ := rfl
    simp only [Option.map_some]
    rw [e1, wr_ren hb ho j (x := ⟨e.key, e.val⟩) he, sumW_ren hb hv i (x := ⟨e.key, e.val⟩) he]
    show (if e.kind ≠ 2 then 0 else if ren b e.val = 0 then 7 else _) = _
    simp only [ren_zero hb he]
theorem unlike_ren {l : List Tx} (hv : ∀ t ∈ l, ∀ e ∈ t.ops, 0 ≤ e.val) (i : Nat) : unlikeR (l.map (renT b)) i = unlikeR l i := by
  unfold unlikeR
  rw [List.getElem?_map]
  cases h : l[i]? with
  | none => rfl
  | some t =>
    have e1 : opE (l.map (renT b)) i (renT b t).ops = opE l i t.ops := funext fun j => opE_ren hb hv i (hv t (List.mem_of_getElem? h)) j
    simp only [Option.map_some]
    rw [e1]
    have e2 : (renT b t).ops.length = t.ops.length := List.length_map _
    rw [e2]
theorem ahead_ren (l : List Ev) (kind key : Int) : ∀ n, aheadN (l.map (renE b)) kind key n = aheadN l kind key n
  | 0 => rfl
  | n + 1 => by
    unfold aheadN
    rw [List.getElem?_map, ahead_ren l kind key n]
    cases l[n]? <;> rfl
theorem valAt_ren (l : List Ev) (k : Int) : valAt (l.map (renE b)) k = ren b (valAt l k) := by
  unfold valAt
  rw [List.getElem?_map]
  cases l[k.toNat]? with
  | none => show (0 : Int) = ren b 0; unfold ren; rw [if_neg (by omega)]
  | some e => rfl
theorem kindAt_ren (l : List Ev) (k : Int) : kindAt (l.map (renE b)) k = kindAt l k := by
  unfold kindAt
  rw [List.getElem?_map]
  cases l[k.toNat]? <;> rfl
theorem firstI_ren (key : Int) : ∀ (l : List Ev) (k : Nat), firstI key (l.map (renE b)) k = firstI key l k
  | [], _ => rfl
  | x :: r, k => by
    rw [List.map_cons, firstI, firstI, firstI_ren key r]
    rfl
theorem firstD_ren (l : List Ev) (key : Int) (k : Nat) : firstD (l.map (renE b)) key k = firstD l key k := by
  unfold firstD
  rw [← List.map_drop, firstI_ren hb]
theorem valAt_pos {l : List Ev} (hv : ∀ e ∈ l, 0 ≤ e.val) (k : Int) : 0 ≤ valAt l k := by
  unfold valAt
  cases h : l[k.toNat]? with
  | none => exact Int.le_refl _
  | some e => exact hv e (List.mem_of_getElem? h)
theorem future_ren {l : List Ev} (hv : ∀ e ∈ l, 0 ≤ e.val) (i : Nat) (key : Int) {v : Int} (h : 0 ≤ v) : future (l.map (renE b)) i key (ren b v) = future l i key v := by
  unfold future
  rw [← List.map_drop, List.any_map]
  rw [Bool.eq_iff_iff, List.any_eq_true, List.any_eq_true]
  refine ⟨fun ⟨e, he, h2⟩ => ⟨e, he, ?_⟩, fun ⟨e, he, h2⟩ => ⟨e, he, ?_⟩⟩
  · have := ren_beq hb (hv e (List.mem_of_mem_drop he)) h
    simp only [Function.comp, renE] at h2
    rw [this] at h2
    exact h2
  · have := ren_beq hb (hv e (List.mem_of_mem_drop he)) h
    simp only [Function.comp, renE]
    rw [this]
    exact h2
theorem wrong_ren {l : List Ev} (hv : ∀ e ∈ l, 0 ≤ e.val) (hv2 : ∀ e ∈ l, e.val ≤ 1000000) (hb2 : b ≤ 1000000) (i : Nat) : wrongAt (l.map (renE b)) i = wrongAt l i := by
  unfold wrongAt
  rw [List.getElem?_map]
  cases h : l[i]? with
  | none => rfl
  | some e =>
    have he := List.mem_of_getElem? h
    have h0 := hv e he
    simp only [Option.map_some]
    unfold wrongE
    rw [ren_right hb h0 (hv2 e he) hb2]
    have e1 : (renE b e).kind = e.kind := rfl
    have e2 : (renE b e).key = e.key := rfl
    have e3 : (renE b e).val = ren b e.val := rfl
    rw [e1, e2, e3, ahead_ren hb, ahead_ren hb, valAt_ren hb, valAt_ren hb, future_ren hb hv i _ h0]
    simp only [ren_inj hb (valAt_pos hb hv _) h0]
theorem look_ren {l : List Ev} (hv : ∀ e ∈ l, 0 ≤ e.val) (hv2 : ∀ e ∈ l, e.val ≤ 1000000) (hb2 : b ≤ 1000000) :
    lookR (l.map (renE b)) = ⟨(lookR l).reads.map (renI b), (lookR l).writes.map (renI b), (lookR l).at_, (lookR l).err⟩ := by
  have h1 : wrongAt (l.map (renE b)) = wrongAt l := funext fun i => wrong_ren hb hv hv2 hb2 i
  have h2 : firstBad (l.map (renE b)) = firstBad l := by unfold firstBad; rw [List.length_map, h1]
  have h3 : ∀ key, readOf (l.map (renE b)) key = (readOf l key).map (renI b) := fun key => by
    unfold readOf
    rw [firstD_ren hb, kindAt_ren hb, valAt_ren hb]
    split <;> rfl
  have h4 : ∀ key, writeOf (l.map (renE b)) key = (writeOf l key).map (renI b) := fun key => by
    unfold writeOf
    rw [List.length_map, ahead_ren hb, valAt_ren hb]
    split <;> rfl
  unfold lookR
  rw [h2, h1]
  cases firstBad l with
  | some i => rfl
  | none =>
    dsimp only
    unfold readsTo writesTo
    rw [List.map_filterMap, List.map_filterMap]
    simp only [h3, h4]
theorem look_vals {l : List Ev} (hv : ∀ e ∈ l, 0 ≤ e.val) : (∀ x ∈ (lookR l).reads, 0 ≤ x.b) ∧ ∀ x ∈ (lookR l).writes, 0 ≤ x.b := by
  unfold lookR
  cases firstBad l with
  | some i => exact ⟨by simp, by simp⟩
  | none =>
    refine ⟨fun x hx => ?_, fun x hx => ?_⟩
    · obtain ⟨k, _, h⟩ := mem_readsTo.1 hx
      unfold readOf at h
      split at h
      · injection h with h; rw [← h]; exact valAt_pos hb hv _
      · cases h
    · obtain ⟨k, _, h⟩ := mem_writesTo.1 hx
      unfold writeOf at h
      split at h
      · injection h with h; rw [← h]; exact valAt_pos hb hv _
      · cases h
theorem num_ren (l : List Tx) (i : Nat) : numR7 (l.map (renT b)) i = numR7 l i := by
  unfold numR7
  rw [← List.map_take, List.filter_map, List.length_map]
  rfl
theorem who_ren {l : List Tx} (hv : ∀ t ∈ l, ∀ e ∈ t.ops, 0 ≤ e.val) {x : It} (hx : 0 ≤ x.b) : whoR (l.map (renT b)) (renI b x) = whoR l x := by
  have e1 : ∀ t ∈ l, wrT (renT b t) (renI b x) = wrT t x := fun t ht => by
    show wr (t.ops.map (renE b)) (t.ops.map (renE b)).length (renI b x) = wr t.ops t.ops.length x
    rw [List.length_map]
    exact wr_ren hb (hv t ht) _ hx
  unfold whoR
  rw [List.findIdx?_map]
  clear hv
  induction l with
  | nil => rfl
  | cons t r ih =>
    rw [List.findIdx?_cons, List.findIdx?_cons, ih fun t ht => e1 t (by simp [ht])]
    simp only [Function.comp, e1 t (by simp)]
theorem middle_ren {ws : List It} (hw : ∀ y ∈ ws, 0 ≤ y.b) {x : It} (hx : 0 ≤ x.b) : middleB (ws.map (renI b)) (renI b x) = middleB ws x := by
  unfold middleB
  rw [List.any_map, Bool.eq_iff_iff, List.any_eq_true, List.any_eq_true]
  have e : ∀ y ∈ ws, ((fun y => y.a == (renI b x).a && y.b != (renI b x).b) ∘ renI b) y = (y.a == x.a && y.b != x.b) := fun y hy => by
    have := ren_beq hb (hw y hy) hx
    simp only [Function.comp, renI, bne, this]
  exact ⟨fun ⟨y, hy, h⟩ => ⟨y, hy, by rw [← e y hy]; exact h⟩, fun ⟨y, hy, h⟩ => ⟨y, hy, by rw [e y hy]; exact h⟩⟩
theorem from_ren {l : List Tx} (hv : ∀ t ∈ l, ∀ e ∈ t.ops, 0 ≤ e.val) (hv2 : ∀ t ∈ l, ∀ e ∈ t.ops, e.val ≤ 1000000) (hb2 : b ≤ 1000000) {x : It} (hx : 0 ≤ x.b) : fromR (l.map (renT b)) (renI b x) = fromR l x := by
  unfold fromR
  have e0 : ((renI b x).b = 0) = (x.b = 0) := propext (ren_zero hb hx)
  simp only [e0, who_ren hb hv hx]
  split
  · rfl
  · cases hw : whoR l x with
    | none => rfl
    | some k =>
      dsimp only
      rw [List.getElem?_map, num_ren hb]
      cases ht : l[k]? with
      | none => rfl
      | some t =>
        have htm := List.mem_of_getElem? ht
        simp only [Option.map_some]
        have e1 : (renT b t).done = t.done := rfl
        have e2 : (renT b t).ops = t.ops.map (renE b) := rfl
        rw [e1, e2, look_ren hb (hv t htm) (hv2 t htm) hb2]
        dsimp only
        rw [middle_ren hb (look_vals hb (hv t htm)).2 hx]
theorem one_ren {l : List Tx} (hv : ∀ t ∈ l, ∀ e ∈ t.ops, 0 ≤ e.val) (hv2 : ∀ t ∈ l, ∀ e ∈ t.ops, e.val ≤ 1000000) (hb2 : b ≤ 1000000) {t : Tx} (ht : t ∈ l) : oneR (l.map (renT b)) (renT b t) = oneR l t := by
  have hrv := (look_vals hb (hv t ht)).1
  have e1 : ∀ i, readE (l.map (renT b)) ((lookR t.ops).reads.map (renI b)) i = readE l (lookR t.ops).reads i := fun i => by
    unfold readE
    rw [List.getElem?_map]
    cases h : (lookR t.ops).reads[i]? with
    | none => rfl
    | some r =>
      simp only [Option.map_some]
      rw [from_ren hb hv hv2 hb2 (hrv r (List.mem_of_getElem? h))]
  have e2 : (renT b t).ops = t.ops.map (renE b) := rfl
  unfold oneR
  rw [e2, look_ren hb (hv t ht) (hv2 t ht) hb2]
  dsimp only
  rw [List.length_map, funext e1]
  cases firstN (lookR t.ops).reads.length (readE l (lookR t.ops).reads) with
  | some i => rfl
  | none =>
    dsimp only
    rw [List.map_map, List.map_map]
    congr 2
    refine List.map_congr_left fun r hr => ?_
    simp only [Function.comp]
    rw [from_ren hb hv hv2 hb2 (hrv r hr)]
    rfl
/-- P7.3: with other values, told apart as they were, a history is the same. -/
theorem hist_ren {l : List Tx} (hv : ∀ t ∈ l, ∀ e ∈ t.ops, 0 ≤ e.val) (hv2 : ∀ t ∈ l, ∀ e ∈ t.ops, e.val ≤ 1000000) (hb2 : b ≤ 1000000) : histR (l.map (renT b)) = histR l := by
  have h1 : mayAt (l.map (renT b)) = mayAt l := funext fun i => by
    unfold mayAt
    rw [List.getElem?_map]
    cases h : l[i]? with
    | none => rfl
    | some t =>
      have ht := List.mem_of_getElem? h
      simp only [Option.map_some]
      have : mayT (renT b t) = mayT t := by
        unfold mayT renT
        dsimp only
        rw [List.all_map]
        congr 1
        rw [Bool.eq_iff_iff, List.all_eq_true, List.all_eq_true]
        have e : ∀ e ∈ t.ops, (mayE ∘ renE b) e = mayE e := fun e he => by
          simp only [Function.comp, mayE]
          rw [ren_right hb (hv t ht e he) (hv2 t ht e he) hb2]
          rfl
        exact ⟨fun h e' he => by rw [← e e' he]; exact h e' he, fun h e' he => by rw [e e' he]; exact h e' he⟩
      rw [this]
  have h2 : unlikeR (l.map (renT b)) = unlikeR l := funext fun i => unlike_ren hb hv i
  have h3 : lookAt (l.map (renT b)) = lookAt l := funext fun i => by
    unfold lookAt
    rw [List.getElem?_map]
    cases h : l[i]? with
    | none => rfl
    | some t =>
      have ht := List.mem_of_getElem? h
      simp only [Option.map_some]
      have e2 : (renT b t).ops = t.ops.map (renE b) := rfl
      rw [e2, look_ren hb (hv t ht) (hv2 t ht) hb2]
      rfl
  have h4 : oneAt (l.map (renT b)) = oneAt l := funext fun i => by
    unfold oneAt
    rw [List.getElem?_map]
    cases h : l[i]? with
    | none => rfl
    | some t =>
      simp only [Option.map_some]
      rw [one_ren hb hv hv2 hb2 (List.mem_of_getElem? h)]
      rfl
  have h5 : ∀ n, txnsTo (l.map (renT b)) n = txnsTo l n := fun n => by
    unfold txnsTo
    rw [← List.map_take, List.filter_map, List.map_map]
    refine List.map_congr_left fun t ht => ?_
    simp only [Function.comp]
    rw [one_ren hb hv hv2 hb2 (List.mem_of_mem_take (List.mem_filter.1 ht).1)]
  unfold histR
  rw [List.length_map, h1, h2, h3, h4, h5]
end

/-- Those that were committed. -/
def kept (l : List Tx) : List Tx := l.filter (·.done)
theorem kept_len (l : List Tx) : (kept l).length = numR7 l l.length := by unfold kept numR7; rw [List.take_length]
theorem kept_at {l : List Tx} {i : Nat} (hi : i < l.length) (hd : l[i].done = true) : (kept l)[numR7 l i]? = some l[i] := by
  have hp : (l.take (i + 1)).filter (·.done) <+: kept l := (List.take_prefix (i + 1) l).filter _
  obtain ⟨s, hs⟩ := hp
  rw [← hs, List.take_succ_eq_append_getElem hi, List.filter_append, List.append_assoc]
  unfold numR7
  rw [List.getElem?_append_right (Nat.le_refl _)]
  simp [hd]
theorem kept_from {l : List Tx} {m : Nat} {t : Tx} (h : (kept l)[m]? = some t) : ∃ i, ∃ hi : i < l.length, l[i] = t ∧ t.done = true ∧ numR7 l i = m := by
  have hm := lt_of_at h
  rw [kept_len] at hm
  obtain ⟨i, hi, _, hd, hn⟩ := num7_onto l l.length (Nat.le_refl _) m hm
  have := kept_at hi hd
  rw [hn, h] at this
  injection this with this
  exact ⟨i, hi, this.symm, by rw [this]; exact hd, hn⟩
theorem num_all {l : List Tx} (h : ∀ t ∈ l, t.done = true) {n : Nat} (hn : n ≤ l.length) : numR7 l n = n := by
  unfold numR7
  rw [List.filter_eq_self.2 fun t ht => h t (List.mem_of_mem_take ht), List.length_take]
  omega
structure GoodT (l : List Tx) : Prop where
  len : l.length ≤ 32
  may : ∀ j, j < l.length → mayAt l j = 0
  unlike : ∀ j, j < l.length → unlikeR l j = 0
  look : ∀ j, j < l.length → lookAt l j = 0
  one : ∀ j, j < l.length → oneAt l j = 0
theorem GoodT.hist {l : List Tx} (h : GoodT l) : histR l = (txnsTo l l.length, 0, 0) := histR_good (by have := h.len; omega) h.may h.unlike h.look h.one
theorem unlike_zero {l : List Tx} {i : Nat} {t : Tx} (ht : l[i]? = some t) (h : ∀ j e, t.ops[j]? = some e → e.kind = 2 → e.val ≠ 0 ∧ wr t.ops j ⟨e.key, e.val⟩ + sumW l i ⟨e.key, e.val⟩ = 0) : unlikeR l i = 0 := by
  unfold unlikeR
  rw [ht]
  dsimp only
  rw [firstN_none fun j hj => ?_]
  unfold opE
  rw [List.getElem?_eq_getElem hj]
  dsimp only
  by_cases hk : t.ops[j].kind = 2
  · have := h j _ (List.getElem?_eq_getElem hj) hk
    rw [if_neg (by simp [hk]), if_neg this.1, if_neg (by omega)]
  · rw [if_pos hk]
theorem zero_unlike {l : List Tx} {i : Nat} {t : Tx} (ht : l[i]? = some t) (h : unlikeR l i = 0) : ∀ j e, t.ops[j]? = some e → e.kind = 2 → e.val ≠ 0 ∧ wr t.ops j ⟨e.key, e.val⟩ + sumW l i ⟨e.key, e.val⟩ = 0 := by
  intro j e hj hk
  have := unlike_ops ht h j (lt_of_at hj)
  unfold opE at this
  rw [hj] at this
  dsimp only at this
  rw [if_neg (by simp [hk])] at this
  split at this
  · cases this
  · rename_i hv
    split at this
    · cases this
    · exact ⟨hv, by omega⟩
theorem readE_none {l : List Tx} {rs : List It} (h : ∀ r ∈ rs, (fromR l r).2 = 0) : firstN rs.length (readE l rs) = none :=
  firstN_none fun j hj => by rw [readE_at hj]; exact h _ (List.getElem_mem hj)
theorem one_of {l : List Tx} {t : Tx} (h : ∀ r ∈ (lookR t.ops).reads, (fromR l r).2 = 0) : oneR l t = (⟨t.sess, (lookR t.ops).writes.map (·.a), (lookR t.ops).reads.map fun r => ⟨r.a, (fromR l r).1⟩⟩, 0) := by
  unfold oneR
  dsimp only
  rw [readE_none h]
theorem one_same {l l' : List Tx} {t : Tx} (h : ∀ r ∈ (lookR t.ops).reads, (fromR l r).2 = 0) (h' : ∀ r ∈ (lookR t.ops).reads, fromR l' r = fromR l r) : oneR l' t = oneR l t := by
  rw [one_of h, one_of fun r hr => by rw [h' r hr]; exact h r hr]
  congr 2
  refine List.map_congr_left fun r hr => ?_
  rw [h' r hr]
theorem GoodT.reads {l : List Tx} (h : GoodT l) {t : Tx} (ht : t ∈ l) (hd : t.done = true) : ∀ r ∈ (lookR t.ops).reads, (fromR l r).2 = 0 := by
  obtain ⟨i, hi, rfl⟩ := List.getElem_of_mem ht
  exact (one_zero h.one hi hd).2
/-- P7.3: without those that were given up a history is the same. -/
theorem good_kept {l : List Tx} (h : GoodT l) : GoodT (kept l) ∧ txnsTo (kept l) (kept l).length = txnsTo l l.length := by
  have hall : ∀ t ∈ kept l, t.done = true := fun t ht => (List.mem_filter.1 ht).2
  have hun : ∀ j, j < (kept l).length → unlikeR (kept l) j = 0 := fun j hj => by
    have hk := List.getElem?_eq_getElem hj
    obtain ⟨i, hi, hit, hd, hn⟩ := kept_from hk
    have hti : l[i]? = some (kept l)[j] := by rw [List.getElem?_eq_getElem hi, hit]
    refine unlike_zero hk fun q e hq hke => ?_
    obtain ⟨g1, g2⟩ := zero_unlike hti (h.unlike i hi) q e hq hke
    refine ⟨g1, ?_⟩
    have hs : sumW (kept l) j ⟨e.key, e.val⟩ = 0 := by
      rcases Nat.eq_zero_or_pos (sumW (kept l) j ⟨e.key, e.val⟩) with g | g
      · exact g
      · obtain ⟨k, u, hkj, hu, hp⟩ := sumW_pos.1 g
        obtain ⟨i2, hi2, hit2, hd2, hn2⟩ := kept_from hu
        have hui : l[i2]? = some u := by rw [List.getElem?_eq_getElem hi2, hit2]
        have hw : 0 < wrT (kept l)[j] ⟨e.key, e.val⟩ := wrT_pos.2 ⟨e, List.mem_of_getElem? hq, (isW_iff _ _).2 ⟨hke, rfl, rfl⟩⟩
        have := writer_one h.unlike hti hui hw hp
        subst this
        omega
    omega
  have hfrom : ∀ t ∈ kept l, ∀ r ∈ (lookR t.ops).reads, fromR (kept l) r = fromR l r := fun t ht r hr => by
    have h0 := h.reads (List.mem_filter.1 ht).1 (hall t ht) r hr
    rcases from_ways h0 with ⟨g1, g2⟩ | ⟨k, hk, g1, hd, hp, g2, g3⟩
    · unfold fromR; rw [if_pos g1, if_pos g1]
    · have hka := kept_at hk hd
      have hw := who_of hun hka hp
      have hb : r.b ≠ 0 := by
        intro hb
        unfold fromR at g2
        rw [if_pos hb] at g2
        omega
      have e1 : fromR l r = ((numR7 l k : Int), 0) := Prod.ext g2 h0
      rw [e1]
      unfold fromR
      rw [if_neg hb, hw]
      dsimp only
      rw [hka]
      dsimp only
      rw [if_neg (by simp [hd]), if_neg (by simp [g3]), num_all hall (by have := lt_of_at hka; omega)]
  have hone : ∀ t ∈ kept l, oneR (kept l) t = oneR l t := fun t ht => one_same (h.reads (List.mem_filter.1 ht).1 (hall t ht)) (hfrom t ht)
  refine ⟨⟨Nat.le_trans (List.length_filter_le _ _) h.len, fun j hj => ?_, hun, fun j hj => ?_, fun j hj => ?_⟩, ?_⟩
  · have hk := List.getElem?_eq_getElem hj
    obtain ⟨i, hi, hit, hd, hn⟩ := kept_from hk
    have := h.may i hi
    unfold mayAt at this ⊢
    rw [hk]
    rw [List.getElem?_eq_getElem hi, hit] at this
    exact this
  · have hk := List.getElem?_eq_getElem hj
    obtain ⟨i, hi, hit, hd, hn⟩ := kept_from hk
    have := h.look i hi
    unfold lookAt at this ⊢
    rw [hk]
    rw [List.getElem?_eq_getElem hi, hit] at this
    exact this
  · have hk := List.getElem?_eq_getElem hj
    obtain ⟨i, hi, hit, hd, hn⟩ := kept_from hk
    have := h.one i hi
    unfold oneAt at this ⊢
    rw [hk]
    rw [List.getElem?_eq_getElem hi, hit] at this
    dsimp only at this ⊢
    rw [hone _ (List.getElem_mem hj)]
    exact this
  · unfold txnsTo
    rw [List.take_length, List.take_length, show (kept l).filter (·.done) = kept l from List.filter_eq_self.2 hall]
    refine List.map_congr_left fun t ht => ?_
    rw [hone t ht]

/-- One more that was given up, and writes what nobody else does. -/
def lost (key : Int) : Tx := ⟨0, false, 0, [⟨2, 0, key, 7000000⟩]⟩
theorem sumW_snoc (l : List Tx) (t : Tx) {i : Nat} (hi : i ≤ l.length) (x : It) : sumW (l ++ [t]) i x = sumW l i x := by
  unfold sumW; rw [List.take_append_of_le_length hi]
theorem num_snoc (l : List Tx) (t : Tx) {i : Nat} (hi : i ≤ l.length) : numR7 (l ++ [t]) i = numR7 l i := by
  unfold numR7; rw [List.take_append_of_le_length hi]
theorem good_lost {l : List Tx} (h : GoodT l) (hn : l.length < 32) {key : Int} (hk : 0 ≤ key ∧ key < 16) (hv : ∀ t ∈ l, ∀ e ∈ t.ops, e.val < 7000000) :
    GoodT (l ++ [lost key]) ∧ txnsTo (l ++ [lost key]) (l ++ [lost key]).length = txnsTo l l.length := by
  have hlen : (l ++ [lost key]).length = l.length + 1 := by simp
  have hat : ∀ j, j < l.length → (l ++ [lost key])[j]? = l[j]? := fun j hj => List.getElem?_append_left hj
  have hla : (l ++ [lost key])[l.length]? = some (lost key) := by rw [List.getElem?_append_right (Nat.le_refl _)]; simp
  have hfrom : ∀ r, (fromR l r).2 = 0 → fromR (l ++ [lost key]) r = fromR l r := fun r h0 => by
    rcases from_ways h0 with ⟨g1, g2⟩ | ⟨k, hk, g1, hd, hp, g2, g3⟩
    · unfold fromR; rw [if_pos g1, if_pos g1]
    · have hw : whoR (l ++ [lost key]) r = some k := by
        unfold whoR at g1 ⊢
        rw [List.findIdx?_append, g1]
        rfl
      unfold fromR
      rw [hw, g1]
      dsimp only
      rw [hat k hk, num_snoc l _ (by omega)]
  have hone : ∀ t ∈ l, t.done = true → oneR (l ++ [lost key]) t = oneR l t := fun t ht hd => one_same (h.reads ht hd) fun r hr => hfrom r (h.reads ht hd r hr)
  have hun : ∀ j, j < (l ++ [lost key]).length → unlikeR (l ++ [lost key]) j = 0 := fun j hj => by
    by_cases hjl : j < l.length
    · have ht : (l ++ [lost key])[j]? = some l[j] := by rw [hat j hjl, List.getElem?_eq_getElem hjl]
      refine unlike_zero ht fun q e hq hke => ?_
      rw [sumW_snoc l _ (by omega)]
      exact zero_unlike (List.getElem?_eq_getElem hjl) (h.unlike j hjl) q e hq hke
    · have : j = l.length := by omega
      subst this
      refine unlike_zero hla fun q e hq hke => ?_
      have hq0 : q = 0 ∧ e = ⟨2, 0, key, 7000000⟩ := by
        have := lt_of_at hq
        simp [lost] at this
        subst this
        simp [lost] at hq
        exact ⟨rfl, hq.symm⟩
      obtain ⟨rfl, rfl⟩ := hq0
      refine ⟨show (7000000 : Int) ≠ 0 by decide, ?_⟩
      show wr _ 0 (⟨key, 7000000⟩ : It) + sumW (l ++ [lost key]) l.length (⟨key, 7000000⟩ : It) = 0
      rw [wr_zero, sumW_snoc l _ (Nat.le_refl _), Nat.zero_add]
      rcases Nat.eq_zero_or_pos (sumW l l.length (⟨key, 7000000⟩ : It)) with g | g
      · exact g
      · obtain ⟨k, u, _, hu, hp⟩ := sumW_pos.1 g
        obtain ⟨e, he, hw⟩ := wrT_pos.1 hp
        obtain ⟨_, _, h3⟩ := (isW_iff _ e).1 hw
        have h3 : e.val = 7000000 := h3
        have := hv u (List.mem_of_getElem? hu) e he
        omega
  refine ⟨⟨by omega, fun j hj => ?_, hun, fun j hj => ?_, fun j hj => ?_⟩, ?_⟩
  · by_cases hjl : j < l.length
    · have := h.may j hjl
      unfold mayAt at this ⊢
      rwa [hat j hjl]
    · have : j = l.length := by omega
      subst this
      unfold mayAt
      rw [hla]
      have : mayT (lost key) = true := by
        unfold mayT lost
        simp [mayE, Ev.right, belowB, itemB]
        omega
      simp [this]
  · by_cases hjl : j < l.length
    · have := h.look j hjl
      unfold lookAt at this ⊢
      rwa [hat j hjl]
    · have : j = l.length := by omega
      subst this
      unfold lookAt
      rw [hla]
      rfl
  · by_cases hjl : j < l.length
    · have := h.one j hjl
      unfold oneAt at this ⊢
      rw [hat j hjl]
      rw [List.getElem?_eq_getElem hjl] at this ⊢
      dsimp only at this ⊢
      by_cases hd : l[j].done = true
      · rw [if_pos hd] at this ⊢
        rw [hone _ (List.getElem_mem hjl) hd]
        exact this
      · rw [if_neg hd]
    · have : j = l.length := by omega
      subst this
      unfold oneAt
      rw [hla]
      rfl
  · unfold txnsTo
    rw [List.take_length, List.take_length, List.filter_append, show [lost key].filter (·.done) = [] from rfl, List.append_nil]
    refine List.map_congr_left fun t ht => ?_
    rw [hone t (List.mem_filter.1 ht).1 (List.mem_filter.1 ht).2]
end Go.Proofs.Ytapkbinlhmddiaa
