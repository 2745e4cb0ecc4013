/-
  Plain words for WidenEnds: what an order's beginning decides, the whole order decides; a good order's beginnings are good.
-/
import Derived.Test.YtjomijnbnbideaaGreatDoorC23
import Derived.Test.YtjomijnbnbideaaGreatDoorC29
import Derived.Test.YtjomijnbnbideaaGreatDoorC07
set_option linter.unusedVariables false
set_option linter.unusedSimpArgs false
namespace Go.Proofs.YtjomijnbnbideaaGreatDoor
open Go.RowKit Go.Inq

theorem scanC_append {p d : Cho} : ∀ {a b : List Int}, scanC p a = some d → scanC p (a ++ b) = some d
  | [], b, h => by simp [scanC] at h
  | x :: a, b, h => by
    show scanC p (x :: (a ++ b)) = some d
    unfold scanC at h ⊢
    by_cases h1 : x = p.a
    · rw [if_pos h1] at h ⊢; exact h
    · rw [if_neg h1] at h ⊢
      by_cases h2 : x = p.b
      · rw [if_pos h2] at h ⊢; exact h
      · rw [if_neg h2] at h ⊢; exact scanC_append h
theorem dec_append {H : List Txn} {a b : List Int} : ∀ c ∈ decW H a, c ∈ decW H (a ++ b) := by
  intro c hc
  unfold decW at hc ⊢
  rw [List.mem_filterMap] at hc ⊢
  obtain ⟨q, h1, h2⟩ := hc
  rw [scanC_turn] at h2
  exact ⟨q, h1, by rw [scanC_turn]; exact scanC_append h2⟩
/-- The beginnings of a good order are good. -/
theorem good_prefix {H : List Txn} {level : Int} {a b : List Int} (h : goodB H level (decW H (a ++ b)) = true) : goodB H level (decW H a) = true := good_less dec_append h
theorem order_good {H : List Txn} {level : Int} {a : List Int} : (orderT H.length (fullE H level (decW H a))).isSome = goodB H level (decW H a) := good_order _ _ _
end Go.Proofs.YtjomijnbnbideaaGreatDoor

namespace Go.Proofs.YtjomijnbnbideaaGreatDoor
open Go.RowKit Go.Inq

theorem perm_miss {l : List Int} {n j : Nat} (h : permB l n = true) (hj : j < l.length) (hm : ∀ k, k < n → ∃ i, ∃ hi : i < l.length, i ≠ j ∧ l[i] = (k : Int)) : False := by
  unfold permB at h
  rw [Bool.and_eq_true] at h
  have hl := of_decide_eq_true h.1
  have := sub_len (List.range n) ((l.eraseIdx j).map Int.toNat) List.nodup_range fun k hk => by
    obtain ⟨i, hi, hij, e⟩ := hm k (List.mem_range.1 hk)
    exact List.mem_map.2 ⟨l[i], List.mem_eraseIdx_iff_getElem.2 ⟨i, hi, hij, rfl⟩, by rw [e]; simp⟩
  simp [List.length_eraseIdx, hj] at this
  omega
theorem perm_has {l : List Int} {n k : Nat} (h : permB l n = true) (hk : k < n) : (k : Int) ∈ l := by
  unfold permB at h
  rw [Bool.and_eq_true, List.all_eq_true] at h
  exact List.contains_iff_mem.1 (h.2 k (List.mem_range.2 hk))
theorem perm_len {l : List Int} {n : Nat} (h : permB l n = true) : l.length = n := by
  unfold permB at h
  rw [Bool.and_eq_true] at h
  exact of_decide_eq_true h.1
theorem perm_bd {l : List Int} {n j : Nat} (h : permB l n = true) (hj : j < l.length) : 0 ≤ l[j] ∧ l[j] < (n : Int) := by
  refine Classical.byContradiction fun hno => perm_miss h hj fun k hk => ?_
  obtain ⟨i, hi, e⟩ := List.getElem_of_mem (perm_has h hk)
  refine ⟨i, hi, ?_, e⟩
  rintro rfl
  omega
theorem perm_ne {l : List Int} {n i j : Nat} (h : permB l n = true) (hij : i < j) (hj : j < l.length) : l[i]'(by omega) ≠ l[j] := by
  intro he
  refine perm_miss h hj fun k hk => ?_
  obtain ⟨m, hm, e⟩ := List.getElem_of_mem (perm_has h hk)
  by_cases hmj : m = j
  · subst hmj
    exact ⟨i, by omega, by omega, by rw [he]; exact e⟩
  · exact ⟨m, hm, hmj, e⟩
theorem perm_nodup {l : List Int} {n : Nat} (h : permB l n = true) : l.Nodup := by
  rw [List.nodup_iff_pairwise_ne, List.pairwise_iff_getElem]
  intro i j hi hj hij
  exact perm_ne h hij hj
theorem perm_nd {l : List Int} {n : Nat} (hl : l.length = n) (hd : l.Nodup) (hb : ∀ x ∈ l, 0 ≤ x ∧ x < (n : Int)) : permB l n = true := by
  unfold permB
  rw [decide_eq_true hl, Bool.true_and, List.all_eq_true]
  intro k hk
  have hk := List.mem_range.1 hk
  rw [List.contains_iff_mem]
  refine Classical.byContradiction fun hno => ?_
  have hnd : (l.map Int.toNat).Nodup := by
    rw [List.nodup_iff_pairwise_ne, List.pairwise_map]
    exact (List.nodup_iff_pairwise_ne.1 hd).imp_of_mem fun ha hb' hne e => hne (by have := hb _ ha; have := hb _ hb'; omega)
  have := sub_len (k :: l.map Int.toNat) (List.range n) (List.nodup_cons.2 ⟨fun hm => by
      obtain ⟨y, hy, e⟩ := List.mem_map.1 hm
      have := hb y hy
      exact hno (by rw [show (k : Int) = y by omega]; exact hy), hnd⟩) fun x hx => by
    rw [List.mem_cons] at hx
    rw [List.mem_range]
    rcases hx with rfl | hx
    · exact hk
    · obtain ⟨y, hy, rfl⟩ := List.mem_map.1 hx
      have := hb y hy
      omega
  simp at this
  omega

/-- Each pair, one way or the other. -/
def allW : List Cho → List Cho → Prop
  | [], [] => True
  | p :: P, c :: C => (c = p ∨ c = turnB p) ∧ allW P C
  | _, _ => False
theorem allW_map {f : Cho → Cho} : ∀ {P : List Cho}, (∀ p ∈ P, f p = p ∨ f p = turnB p) → allW P (P.map f)
  | [], _ => trivial
  | p :: P, h => ⟨h p (by simp), allW_map fun q hq => h q (by simp [hq])⟩
theorem allW_mem : ∀ {P C : List Cho}, allW P C → ∀ c ∈ C, ∃ p ∈ P, c = p ∨ c = turnB p
  | [], [], _, c, hc => by cases hc
  | [], _ :: _, h, _, _ => h.elim
  | _ :: _, [], h, _, _ => h.elim
  | p :: P, d :: C, h, c, hc => by
    rw [List.mem_cons] at hc
    rcases hc with rfl | hc
    · exact ⟨p, by simp, h.1⟩
    · obtain ⟨q, hq, e⟩ := allW_mem h.2 c hc
      exact ⟨q, by simp [hq], e⟩
theorem allW_has : ∀ {P C : List Cho}, allW P C → ∀ p ∈ P, p ∈ C ∨ turnB p ∈ C
  | [], [], _, c, hc => by cases hc
  | [], _ :: _, h, _, _ => h.elim
  | _ :: _, [], h, _, _ => h.elim
  | p :: P, d :: C, h, c, hc => by
    rw [List.mem_cons] at hc
    rcases hc with rfl | hc
    · rcases h.1 with e | e
      · exact .inl (by rw [← e]; simp)
      · exact .inr (by rw [← e]; simp)
    · rcases allW_has h.2 c hc with e | e
      · exact .inl (by simp [e])
      · exact .inr (by simp [e])
theorem allW_len : ∀ {P C : List Cho}, allW P C → P.length = C.length
  | [], [], _ => rfl
  | [], _ :: _, h => h.elim
  | _ :: _, [], h => h.elim
  | p :: P, d :: C, h => by rw [List.length_cons, List.length_cons, allW_len h.2]

/-- All ways to choose pairs behind some choices, till nothing leads back. -/
def someB (H : List Txn) (level : Int) : List Cho → List Cho → Bool
  | [], l => goodB H level l
  | c :: P, l => someB H level P (l ++ [c]) || someB H level P (l ++ [turnB c])
def hasB (H : List Txn) (level : Int) : Bool := someB H level (pairsL H) []
theorem someB_iff {H : List Txn} {level : Int} : ∀ {P l : List Cho}, someB H level P l = true ↔ ∃ m, allW P m ∧ goodB H level (l ++ m) = true
  | [], l => by
    unfold someB
    constructor
    · intro h; exact ⟨[], trivial, by rw [List.append_nil]; exact h⟩
    · rintro ⟨m, hm, h⟩
      match m, hm with
      | [], _ => rw [List.append_nil] at h; exact h
      | _ :: _, hm => exact hm.elim
  | c :: P, l => by
    unfold someB
    rw [Bool.or_eq_true, someB_iff, someB_iff]
    constructor
    · rintro (⟨m, hm, h⟩ | ⟨m, hm, h⟩)
      · exact ⟨c :: m, ⟨.inl rfl, hm⟩, by rw [List.append_assoc] at h; exact h⟩
      · exact ⟨turnB c :: m, ⟨.inr rfl, hm⟩, by rw [List.append_assoc] at h; exact h⟩
    · rintro ⟨m, hm, h⟩
      match m, hm with
      | [], hm => exact hm.elim
      | d :: m, hm =>
        rcases hm.1 with rfl | rfl
        · exact .inl ⟨m, hm.2, by rw [List.append_assoc]; exact h⟩
        · exact .inr ⟨m, hm.2, by rw [List.append_assoc]; exact h⟩
theorem hasB_iff {H : List Txn} {level : Int} : hasB H level = true ↔ ∃ m, allW (pairsL H) m ∧ goodB H level m = true := by
  unfold hasB; rw [someB_iff]; simp

/-- An order's choices are a way to choose all pairs. -/
theorem dec_all {H : List Txn} {π : List Int} (h : permB π H.length = true) : allW (pairsL H) (decW H π) := by
  rw [← ofL_dec h]
  unfold ofL
  refine allW_map fun p _ => ?_
  unfold ofC
  split
  · exact .inr rfl
  · exact .inl rfl
theorem has_of_dec {H : List Txn} {level : Int} {π : List Int} (h : permB π H.length = true) (hg : goodB H level (decW H π) = true) : hasB H level = true := hasB_iff.2 ⟨_, dec_all h, hg⟩

/-- An order of nodes, all of them. -/
structure TopoN (n : Nat) (E : Edges) (o : List Nat) : Prop where
  t : TopoL n E o
  len : o.length = n
  all : ∀ y, y < n → y ∈ o
theorem topoN_of {n : Nat} {E : Edges} (h : cycB n E = false) : ∃ o, TopoN n E o := by
  obtain ⟨o, ho⟩ : ∃ o, orderT n E = some o := by
    have := orderT_cyc n E
    rw [h] at this
    exact Option.isSome_iff_exists.1 this
  have ht := orderTo_topo n o ho
  have hl := orderTo_len ho
  refine ⟨o, ht, hl, fun y hy => Classical.byContradiction fun hno => ?_⟩
  have := sub_len (y :: o) (List.range n) (List.nodup_cons.2 ⟨hno, ht.nd⟩) (fun x hx => by
    rw [List.mem_cons] at hx
    rw [List.mem_range]
    rcases hx with rfl | hx
    · exact hy
    · exact ht.lt x hx)
  simp at this
  omega
theorem good_topo {H : List Txn} {level : Int} {m : List Cho} (hg : goodB H level m = true) : ∃ o, TopoN H.length (fullE H level m) o := by
  unfold goodB at hg
  exact topoN_of (by simpa using hg)
theorem TopoN.perm {n : Nat} {E : Edges} {o : List Nat} (h : TopoN n E o) : permB (o.map fun (x : Nat) => (x : Int)) n = true := by
  refine perm_nd (by rw [List.length_map]; exact h.len) ?_ fun x hx => ?_
  · rw [List.nodup_iff_pairwise_ne, List.pairwise_map]
    exact (List.nodup_iff_pairwise_ne.1 h.t.nd).imp fun hne e => hne (by omega)
  · obtain ⟨y, hy, rfl⟩ := List.mem_map.1 hx
    have := h.t.lt y hy
    omega
/-- Where a number stands in an order. -/
theorem TopoN.at_ {n : Nat} {E : Edges} {o : List Nat} (h : TopoN n E o) {x : Nat} (hx : x < n) : ∃ hi : o.idxOf x < o.length, o[o.idxOf x] = x := ⟨List.idxOf_lt_length_of_mem (h.all x hx), List.getElem_idxOf _⟩
theorem TopoN.idxI {n : Nat} {E : Edges} {o : List Nat} (h : TopoN n E o) {x : Nat} (hx : x < n) : idxI (o.map fun (x : Nat) => (x : Int)) (x : Int) = o.idxOf x := by
  obtain ⟨hi, he⟩ := h.at_ hx
  refine idxI_hit (by rw [List.length_map]; exact hi) (by rw [List.getElem_map, he]) fun j hj hlt e => ?_
  rw [List.getElem_map] at e
  have hnd := List.pairwise_iff_getElem.1 (List.nodup_iff_pairwise_ne.1 h.t.nd) j (o.idxOf x) (by simpa using hj) hi hlt
  exact hnd (by rw [he]; omega)
theorem TopoN.up {n : Nat} {E : Edges} {o : List Nat} (h : TopoN n E o) {x y : Nat} (hx : x < n) (hy : y < n) (he : E x y = true) : o.idxOf x < o.idxOf y := (h.t.up y (h.all y hy) x hx he).2
/-- What an order of all that follows decides was so chosen. -/
theorem dec_sub {H : List Txn} {m : List Cho} {E : Edges} {o : List Nat} (hm : allW (pairsL H) m) (ht : TopoN H.length E o) (hw : ∀ a b, wwE m a b = true → E a b = true) : ∀ c ∈ decW H (o.map fun (x : Nat) => (x : Int)), c ∈ m := by
  intro c hc
  rw [← ofL_dec ht.perm] at hc
  unfold ofL at hc
  obtain ⟨p, hp, rfl⟩ := List.mem_map.1 hc
  obtain ⟨a, b, ha, hb, hab, hbn, -, -⟩ := pairsL_mem hp
  have hia := ht.idxI (x := a) (by omega)
  have hib := ht.idxI (x := b) hbn
  unfold ofC
  rw [ha, hb, hia, hib]
  have hin : ∀ q ∈ m, ∀ x y : Nat, q.a = x → q.b = y → x < H.length → y < H.length → o.idxOf x < o.idxOf y := fun q hq x y hx hy hxn hyn => ht.up hxn hyn (hw x y (by
    unfold wwE
    rw [List.any_eq_true]
    exact ⟨q, hq, by rw [hx, hy]; simp⟩))
  rcases allW_has hm p hp with h | h
  · have := hin p h a b ha hb (by omega) hbn
    rw [if_neg (by omega)]
    exact h
  · have := hin (turnB p) h b a hb ha hbn (by omega)
    rw [if_pos (by omega)]
    have e : turnB p = ⟨p.key, b, a⟩ := by unfold turnB; rw [ha, hb]
    rw [← e]
    exact h
/-- A good order, in which whoever is surely ahead stands ahead. -/
structure FullP (H : List Txn) (level : Int) (π : List Int) : Prop where
  perm : permB π H.length = true
  past : ∀ i (hi : i < π.length) (x : Nat), x < H.length → pastE H x (π[i]).toNat = true → (x : Int) ∈ π.take i
  good : goodB H level (decW H π) = true
theorem full_of {H : List Txn} {level : Int} (h : hasB H level = true) : ∃ π, FullP H level π := by
  obtain ⟨m, hm, hg⟩ := hasB_iff.1 h
  obtain ⟨o, ht⟩ := good_topo hg
  have hsub : ∀ x y, orE (pastE H) (wwE m) x y = true → fullE H level m x y = true := fun x y h => by
    unfold fullE
    show (orE (pastE H) (wwE m) x y || _) = true
    rw [h]; rfl
  refine ⟨o.map fun (x : Nat) => (x : Int), ht.perm, fun i hi x hx hp => ?_, good_less (dec_sub hm ht fun a b h => hsub a b (by unfold orE; rw [h]; simp)) hg⟩
  rw [List.getElem_map, Int.toNat_natCast] at hp
  have hi2 : i < o.length := by simpa using hi
  have hup := ht.up hx (ht.t.lt _ (List.getElem_mem hi2)) (hsub _ _ (by unfold orE; rw [hp]; rfl))
  have hie : o.idxOf o[i] = i := by
    have h1 : o.idxOf o[i] < o.length := List.idxOf_lt_length_of_mem (List.getElem_mem hi2)
    have h2 : o[o.idxOf o[i]] = o[i] := List.getElem_idxOf _
    rcases Nat.lt_trichotomy (o.idxOf o[i]) i with g | g | g
    · exact absurd h2 (List.pairwise_iff_getElem.1 (List.nodup_iff_pairwise_ne.1 ht.t.nd) _ _ h1 hi2 g)
    · exact g
    · exact absurd h2.symm (List.pairwise_iff_getElem.1 (List.nodup_iff_pairwise_ne.1 ht.t.nd) _ _ hi2 h1 g)
  rw [hie] at hup
  obtain ⟨g1, g2⟩ := ht.at_ hx
  exact List.mem_take_iff_getElem.2 ⟨o.idxOf x, by rw [List.length_map]; omega, by rw [List.getElem_map, g2]⟩
theorem has_full {H : List Txn} {level : Int} : hasB H level = true ↔ ∃ π, FullP H level π := ⟨full_of, fun ⟨_, h⟩ => has_of_dec h.perm h.good⟩
end Go.Proofs.YtjomijnbnbideaaGreatDoor

namespace Go.Inq

theorem riseW_pw {l : List Int} (h : l.Pairwise (· < ·)) : riseW l = true := by
  rw [riseW_iff]
  intro k hk hl
  exact List.pairwise_iff_getElem.1 h (k - 1) k (by omega) hl (by omega)
theorem come_pw (H : List Txn) (path : List Int) : (comeW H path).Pairwise (· < ·) := by
  unfold comeW
  rw [List.pairwise_map]
  exact (List.Pairwise.filter _ List.pairwise_lt_range).imp fun h => by omega
theorem come_rise (H : List Txn) (path : List Int) (k : Nat) : riseW ((comeW H path).take k) = true := riseW_pw ((come_pw H path).sublist (List.take_sublist _ _))
theorem come_fresh (H : List Txn) (path : List Int) (k : Nat) : freshW H.length ((comeW H path).take k) path = true := by
  unfold freshW
  rw [List.all_eq_true]
  intro x hx
  have hx := List.mem_of_mem_take hx
  unfold comeW at hx
  obtain ⟨t, ht, rfl⟩ := List.mem_map.1 hx
  obtain ⟨h1, h2⟩ := List.mem_filter.1 ht
  rw [Bool.and_eq_true] at h2
  have h3 := List.mem_range.1 h1
  rw [h2.1]
  simp
  omega
/-- When a state may be. -/
structure OkW (H : List Txn) (s : Wd) : Prop where
  h : rightH H = true
  w1 : 1 ≤ s.width
  w2 : s.width ≤ 32
  pl : s.path.length ≤ H.length - 1
  pf : ∀ i (hi : i < s.path.length), freshW H.length [s.path[i]] (s.path.take i) = true
  l0 : s.left = [] → s.path = []
  ll : s.left ≠ [] → s.left.length = s.path.length + 1
  lf : ∀ i (hi : i < s.left.length), riseW s.left[i] = true ∧ freshW H.length s.left[i] (s.path.take i) = true
theorem okW_iff (H : List Txn) (s : Wd) : rightW H s = true ↔ OkW H s := by
  rw [rightW_eq]
  constructor
  · intro h
    simp only [Bool.and_eq_true] at h
    obtain ⟨⟨hb, hp⟩, hl⟩ := h
    unfold baseW at hb
    simp only [Bool.and_eq_true, decide_eq_true_eq] at hb
    unfold pathW at hp
    rw [List.all_eq_true] at hp
    refine ⟨hb.1.1.1, hb.1.1.2, hb.1.2, hb.2, fun i hi => ?_, fun e => ?_, fun e => ?_, fun i hi => ?_⟩
    · have := hp i (List.mem_range.2 hi)
      simp only [List.getD_eq_getElem?_getD, List.getElem?_eq_getElem hi, Option.getD_some] at this
      exact this
    · rw [if_pos e] at hl; exact of_decide_eq_true hl
    · rw [if_neg e, Bool.and_eq_true] at hl; exact of_decide_eq_true hl.1
    · have e : s.left ≠ [] := fun e => by rw [e] at hi; simp at hi
      rw [if_neg e, Bool.and_eq_true] at hl
      have h2 := hl.2
      unfold leftW at h2
      rw [List.all_eq_true] at h2
      have := h2 i (List.mem_range.2 hi)
      simp only [List.getD_eq_getElem?_getD, List.getElem?_eq_getElem hi, Option.getD_some, Bool.and_eq_true] at this
      exact this
  · intro h
    have hb : baseW H s = true := by unfold baseW; simp [h.h, h.w1, h.w2, h.pl]
    have hp : pathW H s = true := pathW_of h.pf
    rw [hb, hp]
    by_cases e : s.left = []
    · rw [if_pos e]; simp [h.l0 e]
    · rw [if_neg e, leftW_of h.lf, decide_eq_true (h.ll e)]; rfl
end Go.Inq

namespace Go.Inq

theorem put_ok {H : List Txn} {s : Wd} (hr : rightH H = true) (w1 : 1 ≤ s.width) (w2 : s.width ≤ 32) (pl : s.path.length ≤ H.length - 1) (pf : ∀ i (hi : i < s.path.length), freshW H.length [s.path[i]] (s.path.take i) = true)
    (hlen : s.left.length = s.path.length) (lf : ∀ i (hi : i < s.left.length), riseW s.left[i] = true ∧ freshW H.length s.left[i] (s.path.take i) = true) : OkW H (putW H s) := by
  unfold putW
  refine ⟨hr, w1, w2, pl, pf, fun e => ?_, fun _ => ?_, fun i hi => ?_⟩
  · simp at e
  · simp; exact hlen
  · dsimp only at hi ⊢
    by_cases h : i < s.left.length
    · rw [List.getElem_append_left h]; exact lf i h
    · have : i = s.left.length := by simp at hi; omega
      subst this
      rw [List.getElem_append_right (Nat.le_refl _)]
      simp only [Nat.sub_self, List.getElem_cons_zero]
      rw [hlen, List.take_length]
      exact ⟨come_rise _ _ _, come_fresh _ _ _⟩
theorem pop_ok {H : List Txn} {s : Wd} (h : OkW H s) (hl : 1 < s.left.length) : OkW H { s with left := s.left.dropLast, path := s.path.dropLast } := by
  have hne : s.left ≠ [] := fun e => by rw [e] at hl; simp at hl
  have hll := h.ll hne
  refine ⟨h.h, h.w1, h.w2, ?_, fun i hi => ?_, fun e => ?_, fun _ => ?_, fun i hi => ?_⟩
  · have := h.pl; simp; omega
  · dsimp only at hi ⊢
    simp at hi
    have := h.pf i (by omega)
    have e : s.path.dropLast.take i = s.path.take i := by rw [List.dropLast_eq_take, List.take_take, Nat.min_eq_left (by omega)]
    rw [List.getElem_dropLast, e]
    exact this
  · dsimp only at e
    have : s.left.dropLast.length = 0 := by rw [e]; rfl
    simp at this
    omega
  · simp; omega
  · dsimp only at hi ⊢
    simp at hi
    have := h.lf i (by omega)
    have e : s.path.dropLast.take i = s.path.take i := by rw [List.dropLast_eq_take, List.take_take, Nat.min_eq_left (by omega)]
    rw [List.getElem_dropLast, e]
    exact this
theorem rise_tail {t : Int} {r : List Int} (h : riseW (t :: r) = true) : riseW r = true := by
  cases r with
  | nil => rfl
  | cons b r => unfold riseW at h; rw [Bool.and_eq_true] at h; exact h.2
theorem fresh_tail {n : Nat} {t : Int} {r path : List Int} (h : freshW n (t :: r) path = true) : freshW n r path = true ∧ freshW n [t] path = true := by
  unfold freshW at h ⊢
  rw [List.all_cons, Bool.and_eq_true] at h
  exact ⟨h.2, by rw [List.all_cons, h.1]; rfl⟩
/-- The last row's first number is taken: the state so far, and the longer path. -/
theorem next_ok {H : List Txn} {s : Wd} (h : OkW H s) {t : Int} {r : List Int} (hl : s.left.getLast? = some (t :: r)) :
    OkW H { s with left := s.left.dropLast ++ [r] } ∧ freshW H.length [t] s.path = true ∧ (s.left.dropLast ++ [r]).length = s.path.length + 1 ∧
      ∀ i (hi : i < (s.left.dropLast ++ [r]).length), riseW (s.left.dropLast ++ [r])[i] = true ∧ freshW H.length (s.left.dropLast ++ [r])[i] (s.path.take i) = true := by
  have hne : s.left ≠ [] := fun e => by rw [e] at hl; simp at hl
  have hll := h.ll hne
  have hm : s.left[s.left.length - 1]'(by omega) = t :: r := by
    rw [List.getLast?_eq_getElem?, List.getElem?_eq_some_iff] at hl
    obtain ⟨_, e⟩ := hl
    exact e
  have hlast := h.lf (s.left.length - 1) (by omega)
  rw [hm] at hlast
  have hpt : s.path.take (s.left.length - 1) = s.path := List.take_of_length_le (by omega)
  rw [hpt] at hlast
  have hrows : ∀ i (hi : i < (s.left.dropLast ++ [r]).length), riseW (s.left.dropLast ++ [r])[i] = true ∧ freshW H.length (s.left.dropLast ++ [r])[i] (s.path.take i) = true := fun i hi => by
    by_cases hi2 : i < s.left.dropLast.length
    · rw [List.getElem_append_left hi2, List.getElem_dropLast]
      exact h.lf i (by simp at hi2; omega)
    · have : i = s.left.dropLast.length := by simp at hi hi2 ⊢; omega
      subst this
      rw [List.getElem_append_right (Nat.le_refl _)]
      simp only [Nat.sub_self, List.getElem_cons_zero]
      rw [List.length_dropLast, hpt]
      exact ⟨rise_tail hlast.1, (fresh_tail hlast.2).1⟩
  have hlen : (s.left.dropLast ++ [r]).length = s.path.length + 1 := by simp; omega
  exact ⟨⟨h.h, h.w1, h.w2, h.pl, h.pf, fun e => by simp at e, fun _ => hlen, hrows⟩, (fresh_tail hlast.2).2, hlen, hrows⟩
/-- With one number more. -/
theorem more_ok {H : List Txn} {s : Wd} (h : OkW H s) {t : Int} {r : List Int} (hl : s.left.getLast? = some (t :: r)) (hn : (s.path ++ [t]).length ≠ H.length) : OkW H (putW H { s with left := s.left.dropLast ++ [r], path := s.path ++ [t] }) := by
  obtain ⟨_, h2, h3, h4⟩ := next_ok h hl
  have hpl := h.pl
  have hx := freshW_len h2 (x := t) (by simp)
  have hH : 0 < H.length := by omega
  refine put_ok h.h h.w1 h.w2 ?_ (fun i hi => ?_) (by simpa using h3) (fun i hi => ?_)
  · simp at hn ⊢; omega
  · dsimp only at hi ⊢
    by_cases hi2 : i < s.path.length
    · rw [List.getElem_append_left hi2, List.take_append_of_le_length (by omega)]
      exact h.pf i hi2
    · have : i = s.path.length := by simp at hi; omega
      subst this
      rw [List.getElem_append_right (Nat.le_refl _), List.take_append_of_le_length (Nat.le_refl _), List.take_length]
      simpa using h2
  · dsimp only at hi ⊢
    have := h4 i hi
    rw [List.take_append_of_le_length (by omega)]
    exact this
/-- A state that may be is followed by one that may be. -/
theorem step_ok {H : List Txn} {level : Int} {s : Wd} (h : OkW H s) : OkW H (stepW H level s).1 := by
  unfold stepW
  split
  · exact h
  · split
    · exact h
    · split
      · rename_i hl
        have e : s.left = [] := by simpa using hl
        have hp := h.l0 e
        exact put_ok h.h h.w1 h.w2 h.pl h.pf (by rw [e, hp]; rfl) h.lf
      · split
        · rename_i h1
          exact pop_ok h h1
        · split
          · rename_i h2
            exact ⟨h.h, by have := h.w1; dsimp only; omega, by have := h2.2; dsimp only; omega, by simp, by simp, fun _ => rfl, fun e => absurd rfl e, by simp⟩
          · exact h
      · rename_i t r hl
        dsimp only
        split
        · exact (next_ok h hl).1
        · split
          · exact (next_ok h hl).1
          · rename_i hn
            exact more_ok h hl hn
end Go.Inq

namespace Go.Proofs.YtjomijnbnbideaaGreatDoor
open Go.RowKit Go.Inq

/-- So many steps that all go on. -/
def goesN (H : List Txn) (level : Int) : Nat → Wd → Wd → Prop
  | 0, s, t => s = t
  | k + 1, s, t => (stepW H level s).2.1 = 0 ∧ goesN H level k (stepW H level s).1 t
/-- What is said behind at most so many steps. -/
def saidN (H : List Txn) (level : Int) : Nat → Wd → Int
  | 0, _ => 0
  | k + 1, s => if (stepW H level s).2.1 = 0 then saidN H level k (stepW H level s).1 else (stepW H level s).2.1
theorem goesN_trans {H : List Txn} {level : Int} : ∀ {a b : Nat} {s t u : Wd}, goesN H level a s t → goesN H level b t u → goesN H level (a + b) s u
  | 0, b, s, t, u, h1, h2 => by
    have h1 : s = t := h1
    subst h1
    rw [Nat.zero_add]; exact h2
  | a + 1, b, s, t, u, h1, h2 => by
    rw [show a + 1 + b = (a + b) + 1 by omega]
    exact ⟨h1.1, goesN_trans h1.2 h2⟩
theorem goesN_ok {H : List Txn} {level : Int} : ∀ {a : Nat} {s t : Wd}, goesN H level a s t → OkW H s → OkW H t
  | 0, s, t, h, ho => by
    have h : s = t := h
    subst h; exact ho
  | a + 1, s, t, h, ho => goesN_ok h.2 (step_ok ho)
theorem saidN_goes {H : List Txn} {level : Int} : ∀ {a : Nat} {s t : Wd} (m : Nat), goesN H level a s t → saidN H level (a + m) s = saidN H level m t
  | 0, s, t, m, h => by
    have h : s = t := h
    subst h; rw [Nat.zero_add]
  | a + 1, s, t, m, h => by
    rw [show a + 1 + m = (a + m) + 1 by omega]
    show (if _ then _ else _) = _
    rw [if_pos h.1]
    exact saidN_goes m h.2
theorem saidN_stop {H : List Txn} {level v : Int} {s : Wd} (m : Nat) (hv : v ≠ 0) (h : (stepW H level s).2.1 = v) : saidN H level (m + 1) s = v := by
  show (if _ then _ else _) = _
  rw [h, if_neg hv]

theorem not_stuck {H : List Txn} {level : Int} {s : Wd} (ho : OkW H s) (hl : level = 0 ∨ level = 1) : ¬ (rightW H s = false ∨ (level ≠ 0 ∧ level ≠ 1)) := by
  rw [(okW_iff H s).2 ho]
  rintro (h | h)
  · cases h
  · omega
/-- A step, told by the last row. -/
theorem step_first {H : List Txn} {level : Int} {s : Wd} (ho : OkW H s) (hl : level = 0 ∨ level = 1) (hn : H ≠ []) (h : s.left = []) : stepW H level s = (putW H s, 0, []) := by
  unfold stepW
  rw [if_neg (not_stuck ho hl), if_neg hn, h]
  rfl
theorem last_of {L : List (List Int)} {x : List Int} : (L ++ [x]).getLast? = some x := by simp
theorem step_pop {H : List Txn} {level : Int} {s : Wd} {L : List (List Int)} (ho : OkW H s) (hl : level = 0 ∨ level = 1) (hn : H ≠ []) (h : s.left = L ++ [[]]) (hL : L ≠ []) : stepW H level s = ({ s with left := L, path := s.path.dropLast }, 0, []) := by
  unfold stepW
  rw [if_neg (not_stuck ho hl), if_neg hn, h, last_of]
  dsimp only
  have := List.length_pos_iff.2 hL
  rw [if_pos (by simp; omega)]
  simp
theorem step_wide {H : List Txn} {level : Int} {s : Wd} (ho : OkW H s) (hl : level = 0 ∨ level = 1) (hn : H ≠ []) (h : s.left = [[]]) (hc : s.cut = true) (hw : s.width < 32) : stepW H level s = (⟨s.width + 1, false, [], []⟩, 0, []) := by
  unfold stepW
  rw [if_neg (not_stuck ho hl), if_neg hn, h]
  simp [hc, hw]
theorem step_stuck {H : List Txn} {level : Int} {s : Wd} (ho : OkW H s) (hl : level = 0 ∨ level = 1) (hn : H ≠ []) (h : s.left = [[]]) (hc : s.cut = false) : stepW H level s = (s, 3, []) := by
  unfold stepW
  rw [if_neg (not_stuck ho hl), if_neg hn, h]
  simp [hc]
theorem step_bad {H : List Txn} {level : Int} {s : Wd} {L : List (List Int)} {t : Int} {r : List Int} (ho : OkW H s) (hl : level = 0 ∨ level = 1) (hn : H ≠ []) (h : s.left = L ++ [t :: r]) (hg : goodB H level (decW H (s.path ++ [t])) = false) : stepW H level s = ({ s with left := L ++ [r] }, 0, []) := by
  unfold stepW
  rw [if_neg (not_stuck ho hl), if_neg hn, h, last_of]
  dsimp only
  have ho := order_good (H := H) (level := level) (a := s.path ++ [t])
  rw [hg] at ho
  cases e : orderT H.length (fullE H level (decW H (s.path ++ [t]))) with
  | some o => rw [e] at ho; cases ho
  | none => simp
theorem step_yes {H : List Txn} {level : Int} {s : Wd} {L : List (List Int)} {t : Int} {r : List Int} (ho : OkW H s) (hl : level = 0 ∨ level = 1) (hn : H ≠ []) (h : s.left = L ++ [t :: r]) (hg : goodB H level (decW H (s.path ++ [t])) = true) (hlen : (s.path ++ [t]).length = H.length) : (stepW H level s).2.1 = 1 := by
  unfold stepW
  rw [if_neg (not_stuck ho hl), if_neg hn, h, last_of]
  dsimp only
  have ho := order_good (H := H) (level := level) (a := s.path ++ [t])
  rw [hg] at ho
  cases e : orderT H.length (fullE H level (decW H (s.path ++ [t]))) with
  | none => rw [e] at ho; cases ho
  | some o =>
    dsimp only
    rw [if_pos hlen]
theorem step_more {H : List Txn} {level : Int} {s : Wd} {L : List (List Int)} {t : Int} {r : List Int} (ho : OkW H s) (hl : level = 0 ∨ level = 1) (hn : H ≠ []) (h : s.left = L ++ [t :: r]) (hg : goodB H level (decW H (s.path ++ [t])) = true) (hlen : (s.path ++ [t]).length ≠ H.length) : stepW H level s = (putW H { s with left := L ++ [r], path := s.path ++ [t] }, 0, []) := by
  unfold stepW
  rw [if_neg (not_stuck ho hl), if_neg hn, h, last_of]
  dsimp only
  have ho := order_good (H := H) (level := level) (a := s.path ++ [t])
  rw [hg] at ho
  cases e : orderT H.length (fullE H level (decW H (s.path ++ [t]))) with
  | none => rw [e] at ho; cases ho
  | some o =>
    dsimp only
    rw [if_neg hlen]
    simp

/-- Whoever stands next in a good order can come next. -/
theorem come_next {H : List Txn} {level : Int} {a q : List Int} {u : Int} (h : FullP H level (a ++ u :: q)) : u ∈ comeW H a := by
  have hlt : a.length < (a ++ u :: q).length := by simp
  have hg : (a ++ u :: q)[a.length]'hlt = u := by
    rw [List.getElem_append_right (Nat.le_refl _)]; simp
  have hb := perm_bd h.perm hlt
  have hnd := perm_nodup h.perm
  have hp := h.past a.length hlt
  rw [hg] at hb hp
  rw [List.take_append_of_le_length (Nat.le_refl _), List.take_length] at hp
  rw [List.nodup_append] at hnd
  unfold comeW
  refine List.mem_map.2 ⟨u.toNat, List.mem_filter.2 ⟨List.mem_range.2 (by omega), ?_⟩, by omega⟩
  have hc : a.contains ((u.toNat : Nat) : Int) = false := by
    rw [Bool.eq_false_iff]
    intro hc
    exact hnd.2.2 _ (List.contains_iff_mem.1 hc) u (by simp) (by omega)
  rw [hc, Bool.not_false, Bool.true_and, List.all_eq_true]
  intro x hx
  have hx := List.mem_range.1 hx
  cases hpe : pastE H x u.toNat with
  | false => rfl
  | true => rw [List.contains_iff_mem.2 (hp x hx hpe)]; rfl

/-- Steps that one number of a row takes at most, so many places ahead of the end. -/
def bndN (w : Nat) : Nat → Nat
  | 0 => 0
  | d + 1 => 2 + w * bndN w d
/-- What becomes of a row. -/
def RowEnd (H : List Txn) (level : Int) (s : Wd) (L : List (List Int)) (row : List Int) (B : Nat) : Prop :=
  (hasB H level = true ∧ ∃ k t, k ≤ B ∧ goesN H level k s t ∧ (stepW H level t).2.1 = 1) ∨
  ∃ k c, k ≤ B ∧ goesN H level k s { s with cut := c, left := L ++ [[]] } ∧ (s.cut = true → c = true) ∧ (c = true → s.cut = true ∨ s.width < (H.length : Int)) ∧ (c = false → ∀ t ∈ row, ∀ q, ¬ FullP H level (s.path ++ t :: q))

theorem come_len (H : List Txn) (path : List Int) : (comeW H path).length ≤ H.length := by
  unfold comeW
  rw [List.length_map]
  exact Nat.le_trans (List.length_filter_le _ _) (by simp)
theorem path_perm {H : List Txn} {s : Wd} {L : List (List Int)} {t : Int} {r : List Int} (ho : OkW H s) (h : s.left = L ++ [t :: r]) (hlen : (s.path ++ [t]).length = H.length) : permB (s.path ++ [t]) H.length = true := by
  obtain ⟨_, hf, _, _⟩ := next_ok ho (t := t) (r := r) (by rw [h, last_of])
  have hpf := ho.pf
  have hfr : ∀ {x : Int} {p : List Int}, freshW H.length [x] p = true → 0 ≤ x ∧ x < (H.length : Int) ∧ x ∉ p := fun {x p} g => by
    unfold freshW at g
    simp only [List.all_cons, List.all_nil, Bool.and_true, Bool.and_eq_true, Bool.not_eq_true'] at g
    refine ⟨of_decide_eq_true g.1.1, of_decide_eq_true g.1.2, fun hm => ?_⟩
    rw [List.contains_iff_mem.2 hm] at g
    exact absurd g.2 (by decide)
  obtain ⟨f1, f2, f3⟩ := hfr hf
  refine perm_nd hlen ?_ fun x hx => ?_
  · rw [List.nodup_append]
    refine ⟨?_, by simp, fun a ha b hb e => ?_⟩
    · rw [List.nodup_iff_pairwise_ne, List.pairwise_iff_getElem]
      intro i j hi hj hij e
      obtain ⟨_, _, g3⟩ := hfr (hpf j hj)
      exact g3 (List.mem_take_iff_getElem.2 ⟨i, by omega, e⟩)
    · simp at hb
      subst hb
      exact f3 (e ▸ ha)
  · rw [List.mem_append, List.mem_singleton] at hx
    rcases hx with hx | rfl
    · obtain ⟨i, hi, rfl⟩ := List.getElem_of_mem hx
      obtain ⟨g1, g2, _⟩ := hfr (hpf i hi)
      exact ⟨g1, g2⟩
    · exact ⟨f1, f2⟩
theorem full_prefix {H : List Txn} {level : Int} {a q : List Int} (h : FullP H level (a ++ q)) : goodB H level (decW H a) = true := good_prefix h.good

theorem explore {H : List Txn} {level : Int} (hl : level = 0 ∨ level = 1) (hn : H ≠ []) (w : Nat) :
    ∀ (d : Nat) (row : List Int) (s : Wd) (L : List (List Int)), 1 ≤ d → OkW H s → s.width = (w : Int) → s.left = L ++ [row] → s.path.length + d = H.length → RowEnd H level s L row (row.length * bndN w d) := by
  intro d
  induction d with
  | zero => intro row s L h0; omega
  | succ d ihd =>
    intro row
    induction row with
    | nil =>
      intro s L _ ho hw hs hp
      exact .inr ⟨0, s.cut, Nat.zero_le _, by show s = _; rw [← hs], id, fun h => .inl h, by simp⟩
    | cons t r ihr =>
      intro s L _ ho hw hs hp
      have hwt : (bndN w (d + 1)) = 2 + w * bndN w d := rfl
      have hB : (t :: r).length * bndN w (d + 1) = r.length * bndN w (d + 1) + bndN w (d + 1) := by rw [List.length_cons, Nat.add_mul, Nat.one_mul]
      have hLs : L.length = s.path.length := by
        have := ho.ll (by rw [hs]; simp)
        rw [hs] at this
        simpa using this
      -- what is left of the row, behind so many steps
      have rest : ∀ (k : Nat) (c : Bool), k ≤ bndN w (d + 1) → goesN H level k s { s with cut := c, left := L ++ [r] } → (s.cut = true → c = true) → (c = true → s.cut = true ∨ s.width < (H.length : Int)) → (c = false → ∀ q, ¬ FullP H level (s.path ++ t :: q)) → RowEnd H level s L (t :: r) ((t :: r).length * bndN w (d + 1)) := by
        intro k c hk hg h1 h2 h3
        rcases ihr { s with cut := c, left := L ++ [r] } L (by omega) (goesN_ok hg ho) hw rfl hp with ⟨g0, k2, u, g1, g2, g3⟩ | ⟨k2, c2, g1, g2, g3, g4, g5⟩
        · exact .inl ⟨g0, k + k2, u, by omega, goesN_trans hg g2, g3⟩
        · refine .inr ⟨k + k2, c2, by omega, goesN_trans hg g2, fun h => g3 (h1 h), fun h => ?_, fun h x hx q => ?_⟩
          · rcases g4 h with g | g
            · exact h2 g
            · exact .inr g
          · have hc : c = false := by
              cases hcc : c with
              | false => rfl
              | true => rw [g3 hcc] at h; cases h
            rw [List.mem_cons] at hx
            rcases hx with rfl | hx
            · exact h3 hc q
            · exact g5 h x hx q
      cases hg : goodB H level (decW H (s.path ++ [t])) with
      | false =>
        have hst := step_bad ho hl hn hs hg
        refine rest 1 s.cut (by rw [hwt]; omega) ⟨by rw [hst], by rw [hst]; rfl⟩ id (fun h => .inl h) fun _ q hq => ?_
        have := full_prefix (a := s.path ++ [t]) (q := q) (by rw [List.append_assoc]; exact hq)
        rw [hg] at this
        cases this
      | true =>
        by_cases hlen : (s.path ++ [t]).length = H.length
        · exact .inl ⟨has_of_dec (path_perm ho hs hlen) hg, 0, s, Nat.zero_le _, rfl, step_yes ho hl hn hs hg hlen⟩
        · have hst := step_more ho hl hn hs hg hlen
          have hd : 1 ≤ d := by
            have : (s.path ++ [t]).length = s.path.length + 1 := by simp
            omega
          have hg1 : goesN H level 1 s (putW H { s with left := L ++ [r], path := s.path ++ [t] }) := ⟨by rw [hst], by rw [hst]; rfl⟩
          have ho2 := goesN_ok hg1 ho
          generalize hs2 : putW H { s with left := L ++ [r], path := s.path ++ [t] } = s2 at *
          have e1 : s2.width = s.width := by rw [← hs2]; rfl
          have e2 : s2.path = s.path ++ [t] := by rw [← hs2]; rfl
          have e3 : s2.left = (L ++ [r]) ++ [(comeW H (s.path ++ [t])).take w] := by rw [← hs2]; unfold putW; dsimp only; rw [hw, Int.toNat_natCast]
          have e4 : s2.cut = (s.cut || decide (s.width < ((comeW H (s.path ++ [t])).length : Int))) := by rw [← hs2]; rfl
          have hcl := come_len H (s.path ++ [t])
          have hrow : ((comeW H (s.path ++ [t])).take w).length * bndN w d ≤ w * bndN w d := Nat.mul_le_mul_right _ (by rw [List.length_take]; omega)
          rcases ihd _ s2 (L ++ [r]) hd ho2 (by rw [e1, hw]) e3 (by rw [e2]; simp; omega) with ⟨g0, k2, u, g1, g2, g3⟩ | ⟨k2, c2, g1, g2, g3, g4, g5⟩
          · refine .inl ⟨g0, 1 + k2, u, ?_, goesN_trans hg1 g2, g3⟩
            rw [hB, hwt]; omega
          · have hg2 := goesN_trans hg1 g2
            have ho3 := goesN_ok hg2 ho
            have hpop := step_pop (L := L ++ [r]) ho3 hl hn rfl (by simp)
            have hdl : s2.path.dropLast = s.path := by rw [e2]; simp
            refine rest (1 + k2 + 1) c2 (by rw [hwt]; omega) (goesN_trans hg2 ⟨by rw [hpop], ?_⟩) (fun h => g3 (by rw [e4, h]; rfl)) (fun h => ?_) fun h q hq => ?_
            · rw [hpop]
              show _ = _
              dsimp only
              rw [hdl, e1]
            · rcases g4 h with g | g
              · rw [e4, Bool.or_eq_true] at g
                rcases g with g | g
                · exact .inl g
                · have := of_decide_eq_true g
                  exact .inr (by omega)
              · exact .inr (by omega)
            · have hc2 : s2.cut = false := by
                cases hcc : s2.cut with
                | false => rfl
                | true => rw [g3 hcc] at h; cases h
              rw [e4, Bool.or_eq_false_iff] at hc2
              have hle := of_decide_eq_false hc2.2
              have hq2 : FullP H level ((s.path ++ [t]) ++ q) := by rw [List.append_assoc]; exact hq
              cases q with
              | nil =>
                rw [List.append_nil] at hq2
                exact hlen (perm_len hq2.perm)
              | cons u q =>
                have hu := come_next hq2
                refine g5 h u ?_ q (by rw [e2]; exact hq2)
                rw [List.take_of_length_le (by omega)]
                exact hu

/-- The steps of a width. -/
def costN (n w : Nat) : Nat := 2 + w * bndN w n
/-- What becomes of a width. -/
theorem width_one {H : List Txn} {level : Int} (hr : rightH H = true) (hl : level = 0 ∨ level = 1) (hn : H ≠ []) {w : Nat} (hw : 1 ≤ w) (hwn : w ≤ H.length) :
    (∃ k t, k + 1 ≤ costN H.length w ∧ goesN H level k ⟨(w : Int), false, [], []⟩ t ∧ (stepW H level t).2.1 = if hasB H level = true then 1 else 3) ∨
    (∃ k, k ≤ costN H.length w ∧ w < H.length ∧ goesN H level k ⟨(w : Int), false, [], []⟩ ⟨((w + 1 : Nat) : Int), false, [], []⟩) := by
  have h32 := ((rightH_iff H).1 hr).1
  have ho : OkW H ⟨(w : Int), false, [], []⟩ := ⟨hr, by show (1 : Int) ≤ (w : Int); omega, by show (w : Int) ≤ 32; omega, by simp, by simp, fun _ => rfl, fun e => absurd rfl e, by simp⟩
  have hst := step_first (level := level) ho hl hn rfl
  have hg1 : goesN H level 1 ⟨(w : Int), false, [], []⟩ (putW H ⟨(w : Int), false, [], []⟩) := ⟨by rw [hst], by rw [hst]; rfl⟩
  have ho1 := goesN_ok hg1 ho
  have hlen : 1 ≤ H.length := List.length_pos_iff.2 hn
  have hcl := come_len H []
  have hx := explore hl hn w H.length ((comeW H []).take w) (putW H ⟨(w : Int), false, [], []⟩) [] hlen ho1 rfl (by unfold putW; simp) (by unfold putW; simp)
  have hrow : ((comeW H []).take w).length * bndN w H.length ≤ w * bndN w H.length := Nat.mul_le_mul_right _ (by rw [List.length_take]; omega)
  rcases hx with ⟨g0, k2, u, g1, g2, g3⟩ | ⟨k2, c2, g1, g2, g3, g4, g5⟩
  · exact .inl ⟨1 + k2, u, by unfold costN; omega, goesN_trans hg1 g2, by rw [g3, if_pos g0]⟩
  · have hg2 := goesN_trans hg1 g2
    have ho2 := goesN_ok hg2 ho
    cases c2 with
    | true =>
      have hwl : w < H.length := by
        rcases g4 rfl with g | g
        · have e : (putW H ⟨(w : Int), false, [], []⟩).cut = decide ((w : Int) < ((comeW H []).length : Int)) := by unfold putW; simp
          rw [e] at g
          have := of_decide_eq_true g
          omega
        · have e : (putW H ⟨(w : Int), false, [], []⟩).width = (w : Int) := rfl
          rw [e] at g
          omega
      have hwd := step_wide ho2 hl hn rfl rfl (show (w : Int) < 32 by omega)
      exact .inr ⟨1 + k2 + 1, by unfold costN; omega, hwl, goesN_trans hg2 ⟨by rw [hwd], by rw [hwd]; rfl⟩⟩
    | false =>
      have hsk := step_stuck ho2 hl hn rfl rfl
      refine .inl ⟨1 + k2, _, by unfold costN; omega, hg2, ?_⟩
      rw [hsk]
      have hno : hasB H level = false := by
        rw [Bool.eq_false_iff]
        intro hh
        obtain ⟨π, hπ⟩ := full_of hh
        cases π with
        | nil => have := perm_len hπ.perm; simp at this; omega
        | cons t q =>
          have ht := come_next (a := []) hπ
          have hc : (putW H ⟨(w : Int), false, [], []⟩).cut = false := by
            cases hcc : (putW H ⟨(w : Int), false, [], []⟩).cut with
            | false => rfl
            | true => exact absurd (g3 hcc) (by decide)
          have e : (putW H ⟨(w : Int), false, [], []⟩).cut = decide ((w : Int) < ((comeW H []).length : Int)) := by unfold putW; simp
          rw [e] at hc
          have hle := of_decide_eq_false hc
          exact g5 rfl t (by rw [List.take_of_length_le (by omega)]; exact ht) q hπ
      rw [hno]
      rfl
/-- From a width on, with steps enough. -/
def costS (n : Nat) : Nat → Nat → Nat
  | 0, w => costN n w
  | g + 1, w => costN n w + costS n g (w + 1)
theorem width_end {H : List Txn} {level : Int} (hr : rightH H = true) (hl : level = 0 ∨ level = 1) (hn : H ≠ []) : ∀ (g w : Nat), 1 ≤ w → w + g = H.length → ∃ k, k ≤ costS H.length g w ∧ ∀ m, saidN H level (k + m) ⟨(w : Int), false, [], []⟩ = if hasB H level = true then 1 else 3
  | 0, w, hw, hg => by
    have hne : (if hasB H level = true then (1 : Int) else 3) ≠ 0 := by split <;> decide
    rcases width_one hr hl hn hw (by omega) with ⟨k, t, h1, h2, h3⟩ | ⟨k, h1, h2, h3⟩
    · refine ⟨k + 1, h1, fun m => ?_⟩
      rw [show k + 1 + m = k + (m + 1) by omega, saidN_goes _ h2, saidN_stop m hne h3]
    · omega
  | g + 1, w, hw, hg => by
    have hne : (if hasB H level = true then (1 : Int) else 3) ≠ 0 := by split <;> decide
    have hcs : costS H.length (g + 1) w = costN H.length w + costS H.length g (w + 1) := rfl
    rcases width_one hr hl hn hw (by omega) with ⟨k, t, h1, h2, h3⟩ | ⟨k, h1, h2, h3⟩
    · refine ⟨k + 1, by omega, fun m => ?_⟩
      rw [show k + 1 + m = k + (m + 1) by omega, saidN_goes _ h2, saidN_stop m hne h3]
    · obtain ⟨k2, g1, g2⟩ := width_end hr hl hn g (w + 1) (by omega) (by omega)
      refine ⟨k + k2, by omega, fun m => ?_⟩
      rw [Nat.add_assoc, saidN_goes _ h3, g2]
theorem cost_all {n : Nat} (h : 1 ≤ n) (h4 : n ≤ 4) : costS n (n - 1) 1 ≤ 1000 := by
  have h : n = 1 ∨ n = 2 ∨ n = 3 ∨ n = 4 := by omega
  rcases h with rfl | rfl | rfl | rfl <;> decide
/-- What is said at last. -/
theorem wide_ends {H : List Txn} {level : Int} (hr : rightH H = true) (hl : level = 0 ∨ level = 1) (h4 : H.length ≤ 4) : saidN H level 1000 ⟨1, false, [], []⟩ = if hasB H level = true then 1 else 3 := by
  by_cases hn : H = []
  · have ho : OkW H ⟨1, false, [], []⟩ := ⟨hr, by show (1 : Int) ≤ 1; omega, by show (1 : Int) ≤ 32; omega, by simp, by simp, fun _ => rfl, fun e => absurd rfl e, by simp⟩
    have hs : (stepW H level ⟨1, false, [], []⟩).2.1 = 1 := by
      unfold stepW
      rw [if_neg (not_stuck ho hl), if_pos hn]
    rw [saidN_stop 999 (by decide) hs]
    have hh : hasB H level = true := by
      subst hn
      refine has_of_dec (π := []) (by decide) ?_
      unfold goodB cycB
      rfl
    rw [if_pos hh]
  · have hlen : 1 ≤ H.length := List.length_pos_iff.2 hn
    obtain ⟨k, h1, h2⟩ := width_end hr hl hn (H.length - 1) 1 (by omega) (by omega)
    have := cost_all hlen h4
    have h3 := h2 (1000 - k)
    rw [show k + (1000 - k) = 1000 by omega] at h3
    exact h3
end Go.Proofs.YtjomijnbnbideaaGreatDoor
