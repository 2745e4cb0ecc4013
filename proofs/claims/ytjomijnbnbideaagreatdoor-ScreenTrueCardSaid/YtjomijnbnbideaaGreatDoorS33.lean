/-
  Plain words of layers 16, 18, 21: some way to choose all pairs is good just if some order is; no program in sight.
-/
import Derived.Test.YtjomijnbnbideaaGreatDoorS32
import Derived.Test.YtjomijnbnbideaaGreatDoorS05
set_option linter.unusedVariables false
set_option linter.unusedSimpArgs false
namespace Go.Proofs.YtjomijnbnbideaaGreatDoor
open Go.RowKit Go.Inq

theorem perm_miss {l : List Int} {n j : Nat} (h : permB l n = true) (hj : j < l.length) (hm : ∀ k, k < n → ∃ i, ∃ hi : i < l.length, i ≠ j ∧ l[i] = (k : Int)) : False := by
  unfold permB at h
  rw [Bool.and_eq_true] at h
  have hl := of_decide_eq_true h.1
  have := sub_len (List.range n) ((l.eraseIdx j).map Int.toNat) List.nodup_range fun k hk => by
    obtain ⟨i, hi, hij, e⟩ := hm k (List.mem_range.1 hk)
    exact List.mem_map.2 ⟨l[i], List.mem_eraseIdx_iff_getElem.2 ⟨i, hi, hij, rfl⟩, by rw [e]; simp⟩
  simp [List.length_eraseIdx, hj] at this
  omega
theorem perm_has {l : List Int} {n k : Nat} (h : permB l n = true) (hk : k < n) : (k : Int) ∈ l := by
  unfold permB at h
  rw [Bool.and_eq_true, List.all_eq_true] at h
  exact List.contains_iff_mem.1 (h.2 k (List.mem_range.2 hk))
theorem perm_len {l : List Int} {n : Nat} (h : permB l n = true) : l.length = n := by
  unfold permB at h
  rw [Bool.and_eq_true] at h
  exact of_decide_eq_true h.1
theorem perm_bd {l : List Int} {n j : Nat} (h : permB l n = true) (hj : j < l.length) : 0 ≤ l[j] ∧ l[j] < (n : Int) := by
  refine Classical.byContradiction fun hno => perm_miss h hj fun k hk => ?_
  obtain ⟨i, hi, e⟩ := List.getElem_of_mem (perm_has h hk)
  refine ⟨i, hi, ?_, e⟩
  rintro rfl
  omega
theorem perm_ne {l : List Int} {n i j : Nat} (h : permB l n = true) (hij : i < j) (hj : j < l.length) : l[i]'(by omega) ≠ l[j] := by
  intro he
  refine perm_miss h hj fun k hk => ?_
  obtain ⟨m, hm, e⟩ := List.getElem_of_mem (perm_has h hk)
  by_cases hmj : m = j
  · subst hmj
    exact ⟨i, by omega, by omega, by rw [he]; exact e⟩
  · exact ⟨m, hm, hmj, e⟩
theorem perm_nodup {l : List Int} {n : Nat} (h : permB l n = true) : l.Nodup := by
  rw [List.nodup_iff_pairwise_ne, List.pairwise_iff_getElem]
  intro i j hi hj hij
  exact perm_ne h hij hj
theorem perm_nd {l : List Int} {n : Nat} (hl : l.length = n) (hd : l.Nodup) (hb : ∀ x ∈ l, 0 ≤ x ∧ x < (n : Int)) : permB l n = true := by
  unfold permB
  rw [decide_eq_true hl, Bool.true_and, List.all_eq_true]
  intro k hk
  have hk := List.mem_range.1 hk
  rw [List.contains_iff_mem]
  refine Classical.byContradiction fun hno => ?_
  have hnd : (l.map Int.toNat).Nodup := by
    rw [List.nodup_iff_pairwise_ne, List.pairwise_map]
    exact (List.nodup_iff_pairwise_ne.1 hd).imp_of_mem fun ha hb' hne e => hne (by have := hb _ ha; have := hb _ hb'; omega)
  have := sub_len (k :: l.map Int.toNat) (List.range n) (List.nodup_cons.2 ⟨fun hm => by
      obtain ⟨y, hy, e⟩ := List.mem_map.1 hm
      have := hb y hy
      exact hno (by rw [show (k : Int) = y by omega]; exact hy), hnd⟩) fun x hx => by
    rw [List.mem_cons] at hx
    rw [List.mem_range]
    rcases hx with rfl | hx
    · exact hk
    · obtain ⟨y, hy, rfl⟩ := List.mem_map.1 hx
      have := hb y hy
      omega
  simp at this
  omega

/-- Each pair, one way or the other. -/
def allW : List Cho → List Cho → Prop
  | [], [] => True
  | p :: P, c :: C => (c = p ∨ c = turnB p) ∧ allW P C
  | _, _ => False
theorem allW_map {f : Cho → Cho} : ∀ {P : List Cho}, (∀ p ∈ P, f p = p ∨ f p = turnB p) → allW P (P.map f)
  | [], _ => trivial
  | p :: P, h => ⟨h p (by simp), allW_map fun q hq => h q (by simp [hq])⟩
theorem allW_mem : ∀ {P C : List Cho}, allW P C → ∀ c ∈ C, ∃ p ∈ P, c = p ∨ c = turnB p
  | [], [], _, c, hc => by cases hc
  | [], _ :: _, h, _, _ => h.elim
  | _ :: _, [], h, _, _ => h.elim
  | p :: P, d :: C, h, c, hc => by
    rw [List.mem_cons] at hc
    rcases hc with rfl | hc
    · exact ⟨p, by simp, h.1⟩
    · obtain ⟨q, hq, e⟩ := allW_mem h.2 c hc
      exact ⟨q, by simp [hq], e⟩
theorem allW_has : ∀ {P C : List Cho}, allW P C → ∀ p ∈ P, p ∈ C ∨ turnB p ∈ C
  | [], [], _, c, hc => by cases hc
  | [], _ :: _, h, _, _ => h.elim
  | _ :: _, [], h, _, _ => h.elim
  | p :: P, d :: C, h, c, hc => by
    rw [List.mem_cons] at hc
    rcases hc with rfl | hc
    · rcases h.1 with e | e
      · exact .inl (by rw [← e]; simp)
      · exact .inr (by rw [← e]; simp)
    · rcases allW_has h.2 c hc with e | e
      · exact .inl (by simp [e])
      · exact .inr (by simp [e])
theorem allW_len : ∀ {P C : List Cho}, allW P C → P.length = C.length
  | [], [], _ => rfl
  | [], _ :: _, h => h.elim
  | _ :: _, [], h => h.elim
  | p :: P, d :: C, h => by rw [List.length_cons, List.length_cons, allW_len h.2]

/-- All ways to choose pairs behind some choices, till nothing leads back. -/
def someB (H : List Txn) (level : Int) : List Cho → List Cho → Bool
  | [], l => goodB H level l
  | c :: P, l => someB H level P (l ++ [c]) || someB H level P (l ++ [turnB c])
def hasB (H : List Txn) (level : Int) : Bool := someB H level (pairsL H) []
theorem someB_iff {H : List Txn} {level : Int} : ∀ {P l : List Cho}, someB H level P l = true ↔ ∃ m, allW P m ∧ goodB H level (l ++ m) = true
  | [], l => by
    unfold someB
    constructor
    · intro h; exact ⟨[], trivial, by rw [List.append_nil]; exact h⟩
    · rintro ⟨m, hm, h⟩
      match m, hm with
      | [], _ => rw [List.append_nil] at h; exact h
      | _ :: _, hm => exact hm.elim
  | c :: P, l => by
    unfold someB
    rw [Bool.or_eq_true, someB_iff, someB_iff]
    constructor
    · rintro (⟨m, hm, h⟩ | ⟨m, hm, h⟩)
      · exact ⟨c :: m, ⟨.inl rfl, hm⟩, by rw [List.append_assoc] at h; exact h⟩
      · exact ⟨turnB c :: m, ⟨.inr rfl, hm⟩, by rw [List.append_assoc] at h; exact h⟩
    · rintro ⟨m, hm, h⟩
      match m, hm with
      | [], hm => exact hm.elim
      | d :: m, hm =>
        rcases hm.1 with rfl | rfl
        · exact .inl ⟨m, hm.2, by rw [List.append_assoc]; exact h⟩
        · exact .inr ⟨m, hm.2, by rw [List.append_assoc]; exact h⟩
theorem hasB_iff {H : List Txn} {level : Int} : hasB H level = true ↔ ∃ m, allW (pairsL H) m ∧ goodB H level m = true := by
  unfold hasB; rw [someB_iff]; simp

/-- An order's choices are a way to choose all pairs. -/
theorem dec_all {H : List Txn} {π : List Int} (h : permB π H.length = true) : allW (pairsL H) (decW H π) := by
  rw [← ofL_dec h]
  unfold ofL
  refine allW_map fun p _ => ?_
  unfold ofC
  split
  · exact .inr rfl
  · exact .inl rfl
theorem has_of_dec {H : List Txn} {level : Int} {π : List Int} (h : permB π H.length = true) (hg : goodB H level (decW H π) = true) : hasB H level = true := hasB_iff.2 ⟨_, dec_all h, hg⟩

/-- An order of nodes, all of them. -/
structure TopoN (n : Nat) (E : Edges) (o : List Nat) : Prop where
  t : TopoL n E o
  len : o.length = n
  all : ∀ y, y < n → y ∈ o
theorem topoN_of {n : Nat} {E : Edges} (h : cycB n E = false) : ∃ o, TopoN n E o := by
  obtain ⟨o, ho⟩ : ∃ o, orderT n E = some o := by
    have := orderT_cyc n E
    rw [h] at this
    exact Option.isSome_iff_exists.1 this
  have ht := orderTo_topo n o ho
  have hl := orderTo_len ho
  refine ⟨o, ht, hl, fun y hy => Classical.byContradiction fun hno => ?_⟩
  have := sub_len (y :: o) (List.range n) (List.nodup_cons.2 ⟨hno, ht.nd⟩) (fun x hx => by
    rw [List.mem_cons] at hx
    rw [List.mem_range]
    rcases hx with rfl | hx
    · exact hy
    · exact ht.lt x hx)
  simp at this
  omega
theorem good_topo {H : List Txn} {level : Int} {m : List Cho} (hg : goodB H level m = true) : ∃ o, TopoN H.length (fullE H level m) o := by
  unfold goodB at hg
  exact topoN_of (by simpa using hg)
theorem TopoN.perm {n : Nat} {E : Edges} {o : List Nat} (h : TopoN n E o) : permB (o.map fun (x : Nat) => (x : Int)) n = true := by
  refine perm_nd (by rw [List.length_map]; exact h.len) ?_ fun x hx => ?_
  · rw [List.nodup_iff_pairwise_ne, List.pairwise_map]
    exact (List.nodup_iff_pairwise_ne.1 h.t.nd).imp fun hne e => hne (by omega)
  · obtain ⟨y, hy, rfl⟩ := List.mem_map.1 hx
    have := h.t.lt y hy
    omega
/-- Where a number stands in an order. -/
theorem TopoN.at_ {n : Nat} {E : Edges} {o : List Nat} (h : TopoN n E o) {x : Nat} (hx : x < n) : ∃ hi : o.idxOf x < o.length, o[o.idxOf x] = x := ⟨List.idxOf_lt_length_of_mem (h.all x hx), List.getElem_idxOf _⟩
theorem TopoN.idxI {n : Nat} {E : Edges} {o : List Nat} (h : TopoN n E o) {x : Nat} (hx : x < n) : idxI (o.map fun (x : Nat) => (x : Int)) (x : Int) = o.idxOf x := by
  obtain ⟨hi, he⟩ := h.at_ hx
  refine idxI_hit (by rw [List.length_map]; exact hi) (by rw [List.getElem_map, he]) fun j hj hlt e => ?_
  rw [List.getElem_map] at e
  have hnd := List.pairwise_iff_getElem.1 (List.nodup_iff_pairwise_ne.1 h.t.nd) j (o.idxOf x) (by simpa using hj) hi hlt
  exact hnd (by rw [he]; omega)
theorem TopoN.up {n : Nat} {E : Edges} {o : List Nat} (h : TopoN n E o) {x y : Nat} (hx : x < n) (hy : y < n) (he : E x y = true) : o.idxOf x < o.idxOf y := (h.t.up y (h.all y hy) x hx he).2
/-- What an order of all that follows decides was so chosen. -/
theorem dec_sub {H : List Txn} {m : List Cho} {E : Edges} {o : List Nat} (hm : allW (pairsL H) m) (ht : TopoN H.length E o) (hw : ∀ a b, wwE m a b = true → E a b = true) : ∀ c ∈ decW H (o.map fun (x : Nat) => (x : Int)), c ∈ m := by
  intro c hc
  rw [← ofL_dec ht.perm] at hc
  unfold ofL at hc
  obtain ⟨p, hp, rfl⟩ := List.mem_map.1 hc
  obtain ⟨a, b, ha, hb, hab, hbn, -, -⟩ := pairsL_mem hp
  have hia := ht.idxI (x := a) (by omega)
  have hib := ht.idxI (x := b) hbn
  unfold ofC
  rw [ha, hb, hia, hib]
  have hin : ∀ q ∈ m, ∀ x y : Nat, q.a = x → q.b = y → x < H.length → y < H.length → o.idxOf x < o.idxOf y := fun q hq x y hx hy hxn hyn => ht.up hxn hyn (hw x y (by
    unfold wwE
    rw [List.any_eq_true]
    exact ⟨q, hq, by rw [hx, hy]; simp⟩))
  rcases allW_has hm p hp with h | h
  · have := hin p h a b ha hb (by omega) hbn
    rw [if_neg (by omega)]
    exact h
  · have := hin (turnB p) h b a hb ha hbn (by omega)
    rw [if_pos (by omega)]
    have e : turnB p = ⟨p.key, b, a⟩ := by unfold turnB; rw [ha, hb]
    rw [← e]
    exact h
/-- A good order, in which whoever is surely ahead stands ahead. -/
structure FullP (H : List Txn) (level : Int) (π : List Int) : Prop where
  perm : permB π H.length = true
  past : ∀ i (hi : i < π.length) (x : Nat), x < H.length → pastE H x (π[i]).toNat = true → (x : Int) ∈ π.take i
  good : goodB H level (decW H π) = true
theorem full_of {H : List Txn} {level : Int} (h : hasB H level = true) : ∃ π, FullP H level π := by
  obtain ⟨m, hm, hg⟩ := hasB_iff.1 h
  obtain ⟨o, ht⟩ := good_topo hg
  have hsub : ∀ x y, orE (pastE H) (wwE m) x y = true → fullE H level m x y = true := fun x y h => by
    unfold fullE
    show (orE (pastE H) (wwE m) x y || _) = true
    rw [h]; rfl
  refine ⟨o.map fun (x : Nat) => (x : Int), ht.perm, fun i hi x hx hp => ?_, good_less (dec_sub hm ht fun a b h => hsub a b (by unfold orE; rw [h]; simp)) hg⟩
  rw [List.getElem_map, Int.toNat_natCast] at hp
  have hi2 : i < o.length := by simpa using hi
  have hup := ht.up hx (ht.t.lt _ (List.getElem_mem hi2)) (hsub _ _ (by unfold orE; rw [hp]; rfl))
  have hie : o.idxOf o[i] = i := by
    have h1 : o.idxOf o[i] < o.length := List.idxOf_lt_length_of_mem (List.getElem_mem hi2)
    have h2 : o[o.idxOf o[i]] = o[i] := List.getElem_idxOf _
    rcases Nat.lt_trichotomy (o.idxOf o[i]) i with g | g | g
    · exact absurd h2 (List.pairwise_iff_getElem.1 (List.nodup_iff_pairwise_ne.1 ht.t.nd) _ _ h1 hi2 g)
    · exact g
    · exact absurd h2.symm (List.pairwise_iff_getElem.1 (List.nodup_iff_pairwise_ne.1 ht.t.nd) _ _ hi2 h1 g)
  rw [hie] at hup
  obtain ⟨g1, g2⟩ := ht.at_ hx
  exact List.mem_take_iff_getElem.2 ⟨o.idxOf x, by rw [List.length_map]; omega, by rw [List.getElem_map, g2]⟩
theorem has_full {H : List Txn} {level : Int} : hasB H level = true ↔ ∃ π, FullP H level π := ⟨full_of, fun ⟨_, h⟩ => has_of_dec h.perm h.good⟩
end Go.Proofs.YtjomijnbnbideaaGreatDoor

namespace Go.Proofs.YtjomijnbnbideaaGreatDoor
open Go.RowKit Go.Inq
set_option maxHeartbeats 1000000

theorem pairsK_nodup {key : Int} : ∀ {l : List Nat}, l.Pairwise (· < ·) → (pairsK key l).Pairwise (· ≠ ·)
  | [], _ => by simp [pairsK]
  | a :: r, hp => by
    rw [List.pairwise_cons] at hp
    unfold pairsK
    rw [List.pairwise_append]
    refine ⟨?_, pairsK_nodup hp.2, fun x hx y hy e => ?_⟩
    · rw [List.pairwise_map]
      refine hp.2.imp fun h e => ?_
      simp only [Cho.mk.injEq, true_and] at e
      omega
    · obtain ⟨b, hb, rfl⟩ := List.mem_map.1 hx
      subst e
      obtain ⟨-, x, y, h1, h2, h3, h4⟩ := pairsK_mem hy
      have := hp.1 x h3
      have h1 : (a : Int) = (x : Int) := h1
      omega
theorem pairsL_nodup (H : List Txn) : (pairsL H).Pairwise (· ≠ ·) := by
  unfold pairsL
  rw [List.pairwise_flatten]
  refine ⟨fun l hl => ?_, ?_⟩
  · obtain ⟨k, hk, rfl⟩ := List.mem_map.1 hl
    exact pairsK_nodup (wrsL_rise H k)
  · rw [List.pairwise_map]
    refine (keysL_rise H).imp fun h x hx y hy e => ?_
    have h1 := (pairsK_mem hx).1
    have h2 := (pairsK_mem hy).1
    rw [e, h2] at h1
    omega
theorem pairsK_has {key : Int} {a b : Nat} : ∀ {l : List Nat}, l.Pairwise (· < ·) → a ∈ l → b ∈ l → a < b → (⟨key, a, b⟩ : Cho) ∈ pairsK key l
  | [], _, h, _, _ => by cases h
  | x :: r, hp, ha, hb, hlt => by
    rw [List.pairwise_cons] at hp
    unfold pairsK
    rw [List.mem_append]
    rw [List.mem_cons] at ha hb
    rcases ha with rfl | ha
    · rcases hb with rfl | hb
      · omega
      · exact .inl (List.mem_map.2 ⟨b, hb, rfl⟩)
    · rcases hb with rfl | hb
      · have := hp.1 a ha; omega
      · exact .inr (pairsK_has hp.2 ha hb hlt)
theorem pairsL_has {H : List Txn} {key : Int} {a b : Nat} (hab : a < b) (hb : b < H.length) (h1 : key ∈ (txnAt H a).writes) (h2 : key ∈ (txnAt H b).writes) : (⟨key, a, b⟩ : Cho) ∈ pairsL H := by
  unfold pairsL
  refine List.mem_flatten.2 ⟨_, List.mem_map.2 ⟨key, keysL_mem.2 ⟨txnAt H b, ?_, h2⟩, rfl⟩, pairsK_has (wrsL_rise H key) (wrsL_mem.2 ⟨by omega, h1⟩) (wrsL_mem.2 ⟨hb, h2⟩) hab⟩
  rw [txnAt_of hb]
  exact List.getElem_mem hb
/-- A choice that may be is a pair, one way or the other. -/
theorem one_pair {H : List Txn} {c : Cho} (h : oneB H c = true) : c ∈ pairsL H ∨ turnB c ∈ pairsL H := by
  obtain ⟨a, b, ha, hb, hne, h2, h3, h4, h5⟩ := oneB_iff.1 h
  obtain ⟨ck, ca, cb⟩ := c
  dsimp only at ha hb h4 h5
  subst ha hb
  rcases Nat.lt_or_gt_of_ne hne with hlt | hlt
  · exact .inl (pairsL_has hlt h3 h4 h5)
  · exact .inr (pairsL_has hlt h2 h5 h4)
theorem perL_fst {H : List Txn} {level : Int} {c : Cho} {x : Cho × Option Nat} (h : x ∈ perL H level c) : x.1 = c := by
  unfold perL at h
  cases e : perF H level c with
  | none => rw [e] at h; simp at h
  | some y => rw [e] at h; simp at h; rw [h]
theorem perP_fst {H : List Txn} {level : Int} {p : Cho} {x : Cho × Option Nat} (h : x ∈ perP H level p) : x.1 = p ∨ x.1 = turnB p := by
  unfold perP at h
  rw [List.mem_append] at h
  exact h.imp perL_fst perL_fst
theorem perL_pw {H : List Txn} {level : Int} {c : Cho} {R : Cho × Option Nat → Cho × Option Nat → Prop} : (perL H level c).Pairwise R := by
  unfold perL
  cases perF H level c <;> simp
/-- What is told is told once. -/
theorem plainL_once {H : List Txn} {level : Int} : (plainL H level (pairsL H)).Pairwise (fun x y => x.1 ≠ y.1) := by
  unfold plainL
  rw [List.pairwise_flatten]
  have hlt : ∀ p ∈ pairsL H, p.a < p.b := fun p hp => by obtain ⟨a, b, ha, hb, h, -⟩ := pairsL_mem hp; omega
  refine ⟨fun l hl => ?_, ?_⟩
  · obtain ⟨p, hp, rfl⟩ := List.mem_map.1 hl
    unfold perP
    rw [List.pairwise_append]
    refine ⟨perL_pw, perL_pw, fun x hx y hy e => ?_⟩
    rw [perL_fst hx, perL_fst hy] at e
    have := hlt p hp
    have h2 := congrArg Cho.a e
    have h2 : p.a = p.b := h2
    omega
  · rw [List.pairwise_map]
    refine (pairsL_nodup H).imp_of_mem fun {p q} hp hq hne x hx y hy e => ?_
    have h1 := hlt p hp
    have h2 := hlt q hq
    obtain ⟨pk, pa, pb⟩ := p
    obtain ⟨qk, qa, qb⟩ := q
    dsimp only at h1 h2
    rcases perP_fst hx with ex | ex <;> rcases perP_fst hy with ey | ey
    · exact hne (by rw [← ex, ← ey, e])
    · rw [ex, ey] at e
      simp only [turnB, Cho.mk.injEq] at e
      omega
    · rw [ex, ey] at e
      simp only [turnB, Cho.mk.injEq] at e
      omega
    · rw [ex, ey] at e
      simp only [turnB, Cho.mk.injEq] at e
      exact hne (by simp only [Cho.mk.injEq]; omega)
/-- One that holds, for a reason that makes it plain, is one that may be. -/
theorem plain_fact {H : List Txn} {level : Int} {f : Fct} (hk : f.kind = 1 ∨ f.kind = 3) (hh : holdsB H level [] f = true) : ∃ x ∈ perTo H.length, f = mkF f.c x := by
  obtain ⟨c, kind, i, j, cyc⟩ := f
  unfold holdsB whyB at hh
  dsimp only at hk hh
  rcases hk with rfl | rfl
  · simp [axB] at hh
    refine ⟨none, by simp [perTo], ?_⟩
    simp [mkF, hh]
  · simp [seenF] at hh
    obtain ⟨⟨-, h1⟩, ⟨⟨⟨⟨h2, h3⟩, h4⟩, h5⟩, h6⟩, h7⟩ := hh
    refine ⟨some i.toNat, ?_, ?_⟩
    · unfold perTo
      refine List.mem_cons.2 (.inr (List.mem_map.2 ⟨i.toNat, List.mem_range.2 (by omega), rfl⟩))
    · have hi : (i.toNat : Int) = i := by omega
      have h1 : cyc = [] := by simpa using h1
      have h2 : j = 0 := by simpa using h2
      subst h1 h2
      simp only [mkF, hi]
/-- Nothing plain is left out. -/
theorem plainL_in {H : List Txn} {level : Int} {f : Fct} (hk : f.kind = 1 ∨ f.kind = 3) (hh : holdsB H level [] f = true) : ∃ x ∈ plainL H level (pairsL H), x.1 = f.c := by
  obtain ⟨x, hx, e⟩ := plain_fact hk hh
  have hone : oneB H f.c = true := by unfold holdsB at hh; simp only [Bool.and_eq_true] at hh; exact hh.1.1.2
  obtain ⟨y, hy⟩ : ∃ y, perF H level f.c = some y := by
    unfold perF
    have : ((perTo H.length).find? fun x => holdsB H level [] (mkF f.c x)).isSome = true := by
      rw [List.find?_isSome]
      exact ⟨x, hx, by rw [← e]; exact hh⟩
    exact Option.isSome_iff_exists.1 this
  have hin : (f.c, y) ∈ perL H level f.c := by unfold perL; rw [hy]; simp
  refine ⟨(f.c, y), ?_, rfl⟩
  unfold plainL
  rcases one_pair hone with hp | hp
  · exact List.mem_flatten.2 ⟨_, List.mem_map.2 ⟨_, hp, rfl⟩, by unfold perP; exact List.mem_append_left _ hin⟩
  · refine List.mem_flatten.2 ⟨_, List.mem_map.2 ⟨_, hp, rfl⟩, ?_⟩
    unfold perP
    exact List.mem_append_right _ hin
/-- A yes is so. -/
theorem scr_yes {H : List Txn} {level : Int} (h : (scrH H level).said = 1) : hasB H level = true := by
  unfold scrH at h
  split at h
  · split at h
    · rename_i h2
      split at h
      · rename_i h3
        refine hasB_iff.2 ⟨[], by rw [h3]; trivial, ?_⟩
        unfold goodB
        rw [findL_nil.1 h2]
        rfl
      · simp at h
    · simp at h
  · simp at h
/-- A no is so. -/
theorem scr_no {H : List Txn} {level : Int} (h : (scrH H level).said = 2) : hasB H level = false := by
  unfold scrH at h
  split at h
  · split at h
    · split at h <;> simp at h
    · rename_i h2
      rw [← Bool.not_eq_true]
      intro hh
      obtain ⟨m, -, hg⟩ := hasB_iff.1 hh
      have := good_less (l := []) (by simp) hg
      unfold goodB at this
      exact h2 (findL_nil.2 (by simpa using this))
  · simp at h
theorem scr_said (H : List Txn) (level : Int) : (scrH H level).said = 1 ∨ (scrH H level).said = 2 ∨ (scrH H level).said = 3 := by
  unfold scrH
  split
  · split
    · split
      · exact .inl rfl
      · exact .inr (.inr rfl)
    · exact .inr (.inl rfl)
  · exact .inr (.inr rfl)
/-- What is said without a step. -/
theorem scr_bad {H : List Txn} {level : Int} (h : (rightC H [] && (decide (level = 0) || decide (level = 1))) = false) : scrH H level = ⟨3, [], none, []⟩ := by
  unfold scrH; rw [h]; rfl
theorem scr_good {H : List Txn} {level : Int} (h : (rightC H [] && (decide (level = 0) || decide (level = 1))) = true) :
    decide ((scrH H level).said = 2) = cycB H.length (fullE H level []) ∧ decide ((scrH H level).said = 1) = (!cycB H.length (fullE H level []) && decide (pairsL H = [])) := by
  unfold scrH
  rw [h, if_pos rfl]
  by_cases h2 : findL H.length (fullE H level []) = []
  · rw [if_pos h2, findL_nil.1 h2]
    by_cases h3 : pairsL H = []
    · rw [if_pos h3, h3]; exact ⟨rfl, rfl⟩
    · rw [if_neg h3, decide_eq_false h3]; exact ⟨rfl, rfl⟩
  · rw [if_neg h2]
    have : cycB H.length (fullE H level []) = true := by
      rw [← Bool.not_eq_false]
      intro e
      exact h2 (findL_nil.2 e)
    rw [this]
    exact ⟨rfl, rfl⟩
end Go.Proofs.YtjomijnbnbideaaGreatDoor
