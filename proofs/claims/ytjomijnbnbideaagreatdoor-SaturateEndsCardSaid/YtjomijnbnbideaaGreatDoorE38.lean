/-
  Plain words of layer 9: pairs are each there once, and a choice that may be is one, one way or the other; no program in sight.
-/
import Derived.Test.YtjomijnbnbideaaGreatDoorE07
import Derived.Test.YtjomijnbnbideaaGreatDoorE13
import Derived.Test.YtjomijnbnbideaaGreatDoorE20
import Derived.Test.YtjomijnbnbideaaGreatDoorE37
import Derived.Test.YtjomijnbnbideaaGreatDoorE34
set_option linter.unusedVariables false
set_option linter.unusedSimpArgs false
namespace Go.Proofs.YtjomijnbnbideaaGreatDoor
open Go.RowKit Go.Inq
theorem pairsK_nodup {key : Int} : ∀ {l : List Nat}, l.Pairwise (· < ·) → (pairsK key l).Pairwise (· ≠ ·)
  | [], _ => by simp [pairsK]
  | a :: r, hp => by
    rw [List.pairwise_cons] at hp
    unfold pairsK
    rw [List.pairwise_append]
    refine ⟨?_, pairsK_nodup hp.2, fun x hx y hy e => ?_⟩
    · rw [List.pairwise_map]
      refine hp.2.imp fun h e => ?_
      simp only [Cho.mk.injEq, true_and] at e
      omega
    · obtain ⟨b, hb, rfl⟩ := List.mem_map.1 hx
      subst e
      obtain ⟨-, x, y, h1, h2, h3, h4⟩ := pairsK_mem hy
      have := hp.1 x h3
      have h1 : (a : Int) = (x : Int) := h1
      omega
theorem pairsL_nodup (H : List Txn) : (pairsL H).Pairwise (· ≠ ·) := by
  unfold pairsL
  rw [List.pairwise_flatten]
  refine ⟨fun l hl => ?_, ?_⟩
  · obtain ⟨k, hk, rfl⟩ := List.mem_map.1 hl
    exact pairsK_nodup (wrsL_rise H k)
  · rw [List.pairwise_map]
    refine (keysL_rise H).imp fun h x hx y hy e => ?_
    have h1 := (pairsK_mem hx).1
    have h2 := (pairsK_mem hy).1
    rw [e, h2] at h1
    omega
theorem pairsK_has {key : Int} {a b : Nat} : ∀ {l : List Nat}, l.Pairwise (· < ·) → a ∈ l → b ∈ l → a < b → (⟨key, a, b⟩ : Cho) ∈ pairsK key l
  | [], _, h, _, _ => by cases h
  | x :: r, hp, ha, hb, hlt => by
    rw [List.pairwise_cons] at hp
    unfold pairsK
    rw [List.mem_append]
    rw [List.mem_cons] at ha hb
    rcases ha with rfl | ha
    · rcases hb with rfl | hb
      · omega
      · exact .inl (List.mem_map.2 ⟨b, hb, rfl⟩)
    · rcases hb with rfl | hb
      · have := hp.1 a ha; omega
      · exact .inr (pairsK_has hp.2 ha hb hlt)
theorem pairsL_has {H : List Txn} {key : Int} {a b : Nat} (hab : a < b) (hb : b < H.length) (h1 : key ∈ (txnAt H a).writes) (h2 : key ∈ (txnAt H b).writes) : (⟨key, a, b⟩ : Cho) ∈ pairsL H := by
  unfold pairsL
  refine List.mem_flatten.2 ⟨_, List.mem_map.2 ⟨key, keysL_mem.2 ⟨txnAt H b, ?_, h2⟩, rfl⟩, pairsK_has (wrsL_rise H key) (wrsL_mem.2 ⟨by omega, h1⟩) (wrsL_mem.2 ⟨hb, h2⟩) hab⟩
  rw [txnAt_of hb]
  exact List.getElem_mem hb
/-- A choice that may be is a pair, one way or the other. -/
theorem one_pair {H : List Txn} {c : Cho} (h : oneB H c = true) : c ∈ pairsL H ∨ turnB c ∈ pairsL H := by
  obtain ⟨a, b, ha, hb, hne, h2, h3, h4, h5⟩ := oneB_iff.1 h
  obtain ⟨ck, ca, cb⟩ := c
  dsimp only at ha hb h4 h5
  subst ha hb
  rcases Nat.lt_or_gt_of_ne hne with hlt | hlt
  · exact .inl (pairsL_has hlt h3 h4 h5)
  · exact .inr (pairsL_has hlt h2 h5 h4)
end Go.Proofs.YtjomijnbnbideaaGreatDoor

namespace Go.Inq

theorem wwE_mono {l l' : List Cho} (h : ∀ c ∈ l, c ∈ l') {x y : Nat} (he : wwE l x y = true) : wwE l' x y = true := by
  unfold wwE at he ⊢
  rw [List.any_eq_true] at he ⊢
  obtain ⟨c, hc, h2⟩ := he
  exact ⟨c, h c hc, h2⟩
theorem rwE_mono {H : List Txn} {l l' : List Cho} (h : ∀ c ∈ l, c ∈ l') {x y : Nat} (he : rwE H l x y = true) : rwE H l' x y = true := by
  unfold rwE at he ⊢
  rw [Bool.or_eq_true] at he ⊢
  rcases he with he | he
  · exact .inl he
  · rw [List.any_eq_true] at he ⊢
    obtain ⟨c, hc, h2⟩ := he
    exact .inr ⟨c, h c hc, h2⟩
theorem fullE_mono {H : List Txn} {level : Int} {l l' : List Cho} (h : ∀ c ∈ l, c ∈ l') {x y : Nat} (he : fullE H level l x y = true) : fullE H level l' x y = true := by
  have hd : ∀ a b, orE (pastE H) (wwE l) a b = true → orE (pastE H) (wwE l') a b = true := fun a b g => by
    unfold orE at g ⊢
    rw [Bool.or_eq_true] at g ⊢
    exact g.imp id (wwE_mono h)
  show (orE (pastE H) (wwE l') x y || (if level = 1 then thenE H.length (orE (pastE H) (wwE l')) (rwE H l') else rwE H l') x y) = true
  have he' : (orE (pastE H) (wwE l) x y || (if level = 1 then thenE H.length (orE (pastE H) (wwE l)) (rwE H l) else rwE H l) x y) = true := he
  rw [Bool.or_eq_true] at he' ⊢
  rcases he' with g | g
  · exact .inl (hd x y g)
  · right
    by_cases hl : level = 1
    · rw [if_pos hl] at g ⊢
      unfold thenE at g ⊢
      rw [List.any_eq_true] at g ⊢
      obtain ⟨b, hb, h2⟩ := g
      rw [Bool.and_eq_true] at h2
      exact ⟨b, hb, by rw [hd x b h2.1, rwE_mono h h2.2]; rfl⟩
    · rw [if_neg hl] at g ⊢
      exact rwE_mono h g
theorem wayB_mono {E F : Edges} (h : ∀ x y, E x y = true → F x y = true) : ∀ (l : List Nat) (x y : Nat), wayB E x l y = true → wayB F x l y = true
  | [], x, y, hw => h x y hw
  | a :: l, x, y, hw => by
    have hw' : (E x a && wayB E a l y) = true := hw
    rw [Bool.and_eq_true] at hw'
    show (F x a && wayB F a l y) = true
    rw [h x a hw'.1, wayB_mono h l a y hw'.2]
    rfl
theorem cyc_mono {n : Nat} {E F : Edges} (h : ∀ x y, E x y = true → F x y = true) (hc : cycB n E = true) : cycB n F = true := by
  unfold cycB at hc ⊢
  rw [List.any_eq_true] at hc ⊢
  obtain ⟨x, hx, h2⟩ := hc
  obtain ⟨l, hl, hw⟩ := cloTo_way n x x h2
  exact ⟨x, hx, way_cloTo n l.length l x x (Nat.le_refl _) hl (wayB_mono h l x x hw)⟩
/-- Does nothing lead back? -/
def goodB (H : List Txn) (level : Int) (l : List Cho) : Bool := !cycB H.length (fullE H level l)
theorem good_less {H : List Txn} {level : Int} {l l' : List Cho} (h : ∀ c ∈ l, c ∈ l') (hg : goodB H level l' = true) : goodB H level l = true := by
  unfold goodB at hg ⊢
  rw [Bool.not_eq_true'] at hg ⊢
  rw [← Bool.not_eq_true] at hg ⊢
  exact fun hc => hg (cyc_mono (fun x y => fullE_mono h) hc)
theorem good_order (H : List Txn) (level : Int) (l : List Cho) : (orderT H.length (fullE H level l)).isSome = goodB H level l := orderT_cyc _ _
end Go.Inq

namespace Go.Proofs.YtjomijnbnbideaaGreatDoor
open Go.RowKit Go.Inq

/-- Each pair, one way or the other. -/
def allW : List Cho → List Cho → Prop
  | [], [] => True
  | p :: P, c :: C => (c = p ∨ c = turnB p) ∧ allW P C
  | _, _ => False
theorem allW_map {f : Cho → Cho} : ∀ {P : List Cho}, (∀ p ∈ P, f p = p ∨ f p = turnB p) → allW P (P.map f)
  | [], _ => trivial
  | p :: P, h => ⟨h p (by simp), allW_map fun q hq => h q (by simp [hq])⟩
theorem allW_mem : ∀ {P C : List Cho}, allW P C → ∀ c ∈ C, ∃ p ∈ P, c = p ∨ c = turnB p
  | [], [], _, c, hc => by cases hc
  | [], _ :: _, h, _, _ => h.elim
  | _ :: _, [], h, _, _ => h.elim
  | p :: P, d :: C, h, c, hc => by
    rw [List.mem_cons] at hc
    rcases hc with rfl | hc
    · exact ⟨p, by simp, h.1⟩
    · obtain ⟨q, hq, e⟩ := allW_mem h.2 c hc
      exact ⟨q, by simp [hq], e⟩
theorem allW_has : ∀ {P C : List Cho}, allW P C → ∀ p ∈ P, p ∈ C ∨ turnB p ∈ C
  | [], [], _, c, hc => by cases hc
  | [], _ :: _, h, _, _ => h.elim
  | _ :: _, [], h, _, _ => h.elim
  | p :: P, d :: C, h, c, hc => by
    rw [List.mem_cons] at hc
    rcases hc with rfl | hc
    · rcases h.1 with e | e
      · exact .inl (by rw [← e]; simp)
      · exact .inr (by rw [← e]; simp)
    · rcases allW_has h.2 c hc with e | e
      · exact .inl (by simp [e])
      · exact .inr (by simp [e])
theorem allW_len : ∀ {P C : List Cho}, allW P C → P.length = C.length
  | [], [], _ => rfl
  | [], _ :: _, h => h.elim
  | _ :: _, [], h => h.elim
  | p :: P, d :: C, h => by rw [List.length_cons, List.length_cons, allW_len h.2]

/-- All ways to choose pairs behind some choices, till nothing leads back. -/
def someB (H : List Txn) (level : Int) : List Cho → List Cho → Bool
  | [], l => goodB H level l
  | c :: P, l => someB H level P (l ++ [c]) || someB H level P (l ++ [turnB c])
def hasB (H : List Txn) (level : Int) : Bool := someB H level (pairsL H) []
theorem someB_iff {H : List Txn} {level : Int} : ∀ {P l : List Cho}, someB H level P l = true ↔ ∃ m, allW P m ∧ goodB H level (l ++ m) = true
  | [], l => by
    unfold someB
    constructor
    · intro h; exact ⟨[], trivial, by rw [List.append_nil]; exact h⟩
    · rintro ⟨m, hm, h⟩
      match m, hm with
      | [], _ => rw [List.append_nil] at h; exact h
      | _ :: _, hm => exact hm.elim
  | c :: P, l => by
    unfold someB
    rw [Bool.or_eq_true, someB_iff, someB_iff]
    constructor
    · rintro (⟨m, hm, h⟩ | ⟨m, hm, h⟩)
      · exact ⟨c :: m, ⟨.inl rfl, hm⟩, by rw [List.append_assoc] at h; exact h⟩
      · exact ⟨turnB c :: m, ⟨.inr rfl, hm⟩, by rw [List.append_assoc] at h; exact h⟩
    · rintro ⟨m, hm, h⟩
      match m, hm with
      | [], hm => exact hm.elim
      | d :: m, hm =>
        rcases hm.1 with rfl | rfl
        · exact .inl ⟨m, hm.2, by rw [List.append_assoc]; exact h⟩
        · exact .inr ⟨m, hm.2, by rw [List.append_assoc]; exact h⟩
theorem hasB_iff {H : List Txn} {level : Int} : hasB H level = true ↔ ∃ m, allW (pairsL H) m ∧ goodB H level m = true := by
  unfold hasB; rw [someB_iff]; simp
end Go.Proofs.YtjomijnbnbideaaGreatDoor

namespace Go.Proofs.YtjomijnbnbideaaGreatDoor
open Go.RowKit Go.Inq
set_option maxHeartbeats 1000000

/-- Is a choice in each way to choose all pairs such that nothing leads back? -/
def MustC (H : List Txn) (level : Int) (c : Cho) : Prop := ∀ m, allW (pairsL H) m → goodB H level m = true → c ∈ m
theorem ww_mem {m : List Cho} {c : Cho} {a b : Nat} (h : c ∈ m) (ha : c.a = a) (hb : c.b = b) : wwE m a b = true := by
  unfold wwE
  rw [List.any_eq_true]
  exact ⟨c, h, by rw [ha, hb]; simp⟩
theorem full_dir {H : List Txn} {level : Int} {m : List Cho} {a b : Nat} (h : orE (pastE H) (wwE m) a b = true) : fullE H level m a b = true := by
  unfold fullE
  show (orE (pastE H) (wwE m) a b || _) = true
  rw [h]; rfl
theorem good_acyc {H : List Txn} {level : Int} {m : List Cho} (hg : goodB H level m = true) : cycB H.length (fullE H level m) = false := by
  unfold goodB at hg
  simpa using hg
theorem dir_nil {H : List Txn} {a b : Int} (h : directB H [] a b = true) : ∃ x y : Nat, a = x ∧ b = y ∧ x < H.length ∧ y < H.length ∧ pastE H x y = true := by
  unfold directB at h
  rw [Bool.and_eq_true, twoB_iff] at h
  obtain ⟨⟨hr, x, y, rfl, rfl, hx, hy⟩, hd⟩ := h
  refine ⟨x, y, rfl, rfl, hx, hy, ?_⟩
  rw [Int.toNat_natCast, Int.toNat_natCast, dirE_full hr (by simp) hy] at hd
  unfold orE at hd
  simpa [wwE] using hd
/-- A fact is in each way that some others are in. -/
theorem fact_must {H : List Txn} {level : Int} {L : List Fct} {f : Fct} (hL : ∀ c ∈ chosL L, oneB H c = true ∧ MustC H level c) (h : holdsB H level L f = true) : MustC H level f.c := by
  intro m hm hg
  have hone := Go.Inq.holds_one h
  obtain ⟨hr, hlev⟩ := may_iff.1 (holds_may h)
  have hac := good_acyc hg
  have hin : f.c ∈ m ∨ turnB f.c ∈ m := by
    rcases one_pair hone with hp | hp
    · exact allW_has hm _ hp
    · exact (allW_has hm _ hp).symm
  rcases hin with hin | hin
  · exact hin
  exfalso
  obtain ⟨a, b, ha, hb, hab, han, hbn, hwa, hwb⟩ := oneB_iff.1 hone
  have hback : fullE H level m b a = true := full_dir (by unfold orE; rw [ww_mem hin (show (turnB f.c).a = b from hb) (show (turnB f.c).b = a from ha)]; simp)
  unfold holdsB whyB at h
  rw [Bool.and_eq_true] at h
  have h := h.2
  split at h
  · unfold axB at h
    rw [Bool.and_eq_true] at h
    obtain ⟨x, y, e1, e2, -, -, hp⟩ := dir_nil h.2
    obtain rfl : x = a := by omega
    obtain rfl : y = b := by omega
    rw [cyc_two han hbn (full_dir (by unfold orE; rw [hp]; rfl)) hback] at hac
    cases hac
  · split at h
    · unfold joinB at h
      simp only [Bool.and_eq_true] at h
      obtain ⟨-, h⟩ := h
      split at h
      · rename_i x y hx hy
        simp only [Bool.and_eq_true, decide_eq_true_eq] at h
        obtain ⟨⟨h1, h2⟩, h3⟩ := h
        have hxL : x.c ∈ chosL L := by unfold chosL; exact List.mem_map_of_mem (List.mem_of_getElem? hx)
        have hyL : y.c ∈ chosL L := by unfold chosL; exact List.mem_map_of_mem (List.mem_of_getElem? hy)
        have hxm := (hL _ hxL).2 m hm hg
        have hym := (hL _ hyL).2 m hm hg
        obtain ⟨p, q, hp, hq, -, hpn, hqn, -, -⟩ := oneB_iff.1 (hL _ hxL).1
        rw [h3] at ha hb
        dsimp only at ha hb
        obtain rfl : p = a := by omega
        have e1 : fullE H level m p q = true := full_dir (by unfold orE; rw [ww_mem hxm hp hq]; simp)
        have e2 : fullE H level m q b = true := full_dir (by unfold orE; rw [ww_mem hym (show y.c.a = q by omega) hb]; simp)
        rw [cyc_three hpn hqn hbn e1 e2 hback] at hac
        cases hac
      · cases h
    · split at h
      · unfold seenF at h
        simp only [Bool.and_eq_true, decide_eq_true_eq] at h
        obtain ⟨⟨⟨⟨⟨-, h1⟩, h2⟩, h3⟩, h4⟩, h5⟩ := h
        obtain ⟨x, y, e1, e2, -, hyn, hp⟩ := dir_nil h5
        obtain rfl : x = a := by omega
        rw [e2] at h1 h4
        rw [Int.toNat_natCast] at h4
        have hyx : y ≠ x := fun e => h1 (by rw [e, ha])
        have hrw : rwE H m y x = true := by
          unfold rwE
          rw [Bool.or_eq_true]
          right
          rw [List.any_eq_true]
          refine ⟨_, hin, ?_⟩
          rw [show (turnB f.c).b = f.c.a from rfl, show (turnB f.c).a = f.c.b from rfl, show (turnB f.c).key = f.c.key from rfl, decide_eq_true ha, decide_eq_true hyx, h4]
          rfl
        have hpd : orE (pastE H) (wwE m) x y = true := by unfold orE; rw [hp]; rfl
        rcases hlev with rfl | rfl
        · have e3 : fullE H 0 m y x = true := by
            show (orE (pastE H) (wwE m) y x || rwE H m y x) = true
            rw [hrw]; simp
          rw [cyc_two han hyn (full_dir hpd) e3] at hac
          cases hac
        · have e3 : fullE H 1 m x x = true := by
            show (orE (pastE H) (wwE m) x x || thenE H.length (orE (pastE H) (wwE m)) (rwE H m) x x) = true
            have : thenE H.length (orE (pastE H) (wwE m)) (rwE H m) x x = true := by
              unfold thenE
              rw [List.any_eq_true]
              exact ⟨y, List.mem_range.2 hyn, by rw [hpd, hrw]; rfl⟩
            rw [this]; simp
          rw [cyc_one han e3] at hac
          cases hac
      · split at h
        · unfold forcB at h
          rw [Bool.and_eq_true] at h
          have ho : ∀ c ∈ chosL L ++ [turnB f.c], oneB H c = true := fun c hc => by
            rw [List.mem_append, List.mem_singleton] at hc
            rcases hc with hc | rfl
            · exact (hL c hc).1
            · exact turn_one hone
          have hc := ring_cyc ho h.2
          have hsub : ∀ c ∈ chosL L ++ [turnB f.c], c ∈ m := fun c hc => by
            rw [List.mem_append, List.mem_singleton] at hc
            rcases hc with hc | rfl
            · exact (hL c hc).2 m hm hg
            · exact hin
          rw [cyc_mono (fun x y => fullE_mono hsub) hc] at hac
          cases hac
        · cases h
/-- Facts that replay are in each way. -/
theorem repl_must {H : List Txn} {level : Int} {L : List Fct} (h : replB H level L = true) : ∀ c ∈ chosL L, MustC H level c := by
  have key : ∀ n, n ≤ L.length → ∀ c ∈ chosL (L.take n), MustC H level c := by
    intro n
    induction n with
    | zero => intro _ c hc; simp [chosL] at hc
    | succ n ih =>
      intro hn c hc
      rw [List.take_succ_eq_append_getElem (by omega), chosL_snoc, List.mem_append, List.mem_singleton] at hc
      rcases hc with hc | rfl
      · exact ih (by omega) c hc
      · exact fact_must (fun d hd => ⟨repl_one (replB_take h n) d hd, ih (by omega) d hd⟩) (replB_at h (by omega))
  have := key L.length (Nat.le_refl _)
  rwa [List.take_length] at this
/-- All pairs are decided, and nothing leads back: so some way is good. -/
theorem has_of_open {H : List Txn} {level : Int} {l : List Cho} (ho : openO H l = none) (hg : goodB H level l = true) : hasB H level = true := by
  refine hasB_iff.2 ⟨(pairsL H).map fun p => if p ∈ l then p else turnB p, allW_map fun p _ => ?_, good_less (fun c hc => ?_) hg⟩
  · split
    · exact .inl rfl
    · exact .inr rfl
  · obtain ⟨p, hp, rfl⟩ := List.mem_map.1 hc
    split
    · assumption
    · rename_i hno
      exact (openO_none ho hp).resolve_left hno
/-- What must be so leads back: so no way is good. -/
theorem not_has {H : List Txn} {level : Int} {l : List Cho} (hm : ∀ c ∈ l, MustC H level c) (hg : goodB H level l = false) : hasB H level = false := by
  rw [← Bool.not_eq_true]
  intro h
  obtain ⟨m, h1, h2⟩ := hasB_iff.1 h
  rw [good_less (fun c hc => hm c hc m h1 h2) h2] at hg
  cases hg
theorem order_is {H : List Txn} {level : Int} {l : List Cho} : (∃ o, orderT H.length (fullE H level l) = some o) ↔ goodB H level l = true := by
  rw [← good_order, Option.isSome_iff_exists]
theorem overS_true {H : List Txn} {level : Int} {L : List Fct} (hr : replB H level L = true) : (overS H level L).said = 3 ∨ ((overS H level L).said = 1 ∧ hasB H level = true) ∨ ((overS H level L).said = 2 ∧ hasB H level = false) := by
  unfold overS
  cases h1 : openO H (chosL L) with
  | some p => exact .inl rfl
  | none =>
    cases h2 : orderT H.length (fullE H level (chosL L)) with
    | some o => exact .inr (.inl ⟨rfl, has_of_open h1 (order_is.1 ⟨o, h2⟩)⟩)
    | none =>
      refine .inr (.inr ⟨rfl, not_has (repl_must hr) ?_⟩)
      rw [← Bool.not_eq_true, ← order_is, h2]
      rintro ⟨o, h⟩
      cases h
theorem oneS_no {H : List Txn} {level : Int} {L : List Fct} {p : Cho} (hr : replB H level L = true) (hp : oneB H p = true) (h : (oneS H level L p).said = 2) : hasB H level = false := by
  unfold oneS at h
  split at h
  · cases h
  · split at h
    · cases h
    · dsimp only at h
      split at h
      · split at h <;> cases h
      · split at h
        · cases h
        · rename_i h1 h2
          rw [← Bool.not_eq_true]
          intro hh
          obtain ⟨m, g1, g2⟩ := hasB_iff.1 hh
          have hac := good_acyc g2
          have hin : p ∈ m ∨ turnB p ∈ m := by
            rcases one_pair hp with hq | hq
            · exact allW_has g1 _ hq
            · exact (allW_has g1 _ hq).symm
          have hsub : ∀ c, c ∈ m → ∀ d ∈ chosL L ++ [c], d ∈ m := fun c hc d hd => by
            rw [List.mem_append, List.mem_singleton] at hd
            rcases hd with hd | rfl
            · exact repl_must hr d hd m g1 g2
            · exact hc
          have hcy : ∀ c, findC H level (chosL L ++ [c]) ≠ [] → c ∈ m → False := fun c hc hcm => by
            have : cycB H.length (fullE H level (chosL L ++ [c])) = true := by
              rw [← Bool.not_eq_false]
              intro e
              exact hc (findC_nil.2 e)
            rw [cyc_mono (fun x y => fullE_mono (hsub c hcm)) this] at hac
            cases hac
          rcases hin with hin | hin
          · exact hcy p h2 hin
          · exact hcy (turnB p) h1 hin

/-- How many pairs are open. -/
def openN (H : List Txn) (l : List Cho) : Nat := ((pairsL H).filter fun p => !l.contains p && !l.contains (turnB p)).length
theorem openN_le (H : List Txn) (l : List Cho) : openN H l ≤ (pairsL H).length := List.length_filter_le _ _
theorem filter_less {α : Type} {p q : α → Bool} : ∀ {l : List α}, (∀ x ∈ l, q x = true → p x = true) → ∀ {y : α}, y ∈ l → p y = true → q y = false → (l.filter q).length < (l.filter p).length
  | [], _, y, hy, _, _ => by cases hy
  | a :: r, h, y, hy, h1, h2 => by
    have hle : (r.filter q).length ≤ (r.filter p).length := by
      have : ∀ (r : List α), (∀ x ∈ r, q x = true → p x = true) → (r.filter q).length ≤ (r.filter p).length := by
        intro r
        induction r with
        | nil => intro _; simp
        | cons b r ih =>
          intro hr
          have i2 := ih fun x hx => hr x (by simp [hx])
          rw [List.filter_cons, List.filter_cons]
          by_cases e : q b = true
          · rw [if_pos e, if_pos (hr b (by simp) e)]; simp; exact i2
          · rw [if_neg e]
            split
            · simp; omega
            · exact i2
      exact this r fun x hx => h x (by simp [hx])
    rw [List.filter_cons, List.filter_cons]
    rw [List.mem_cons] at hy
    rcases hy with rfl | hy
    · rw [if_pos h1, if_neg (by rw [h2]; simp)]
      simp; omega
    · have ih := filter_less (fun x hx => h x (by simp [hx])) hy h1 h2
      by_cases e : q a = true
      · rw [if_pos e, if_pos (h a (by simp) e)]; simp; exact ih
      · rw [if_neg e]
        split
        · simp; omega
        · exact ih
/-- A choice of an open pair leaves fewer open. -/
theorem openN_less {H : List Txn} {l : List Cho} {p c : Cho} (hp : p ∈ pairsL H) (h1 : p ∉ l) (h2 : turnB p ∉ l) (hc : c = p ∨ c = turnB p) : openN H (l ++ [c]) < openN H l := by
  unfold openN
  refine filter_less (fun x _ hx => ?_) hp (by simp [h1, h2]) ?_
  · simp at hx ⊢
    exact ⟨hx.1.1, hx.2.1⟩
  · rcases hc with rfl | rfl
    · simp
    · simp
/-- The steps, with all facts learnt: how it ends. -/
def endS (H : List Txn) (level : Int) : Nat → Int → Int → List Fct → Option (Say × List Fct × Nat)
  | 0, _, _, _ => none
  | n + 1, a, i, L =>
    let r := stepS H level a i L
    if r.2.said = 0 then (endS H level n r.1.1 r.1.2 (L ++ r.2.facts)).map fun x => (x.1, x.2.1, x.2.2 + 1) else some (r.2, L ++ r.2.facts, 1)
theorem endS_ends {H : List Txn} {level : Int} : ∀ (n : Nat) (a i : Int) (L : List Fct), satR H a i = true → replB H level L = true → L.length + openN H (chosL L) ≤ (pairsL H).length →
    (pairsL H).length + 1 + openN H (chosL L) * (pairsL H).length ≤ n + i.toNat →
    ∃ o M k, endS H level n a i L = some (o, M, k) ∧ o.said ≠ 0 ∧ k ≤ n ∧ replB H level M = true ∧ (o.said = 3 ∨ (o.said = 1 ∧ hasB H level = true) ∨ (o.said = 2 ∧ hasB H level = false)) := by
  intro n
  induction n with
  | zero =>
    intro a i L hs hr hL hn
    exfalso
    unfold satR at hs
    simp only [Bool.and_eq_true, decide_eq_true_eq] at hs
    omega
  | succ n ih =>
    intro a i L hs hr hL hn
    have hs0 := hs
    unfold satR at hs0
    simp only [Bool.and_eq_true, decide_eq_true_eq] at hs0
    obtain ⟨⟨⟨⟨hri, hi0⟩, hik⟩, ha0⟩, hak⟩ := hs0
    have hk := pairsL_len hri
    have hlen : decide (L.length < 20000) = true := decide_eq_true (by omega)
    have hst : stepS H level a i L = if i = ((pairsL H).length : Int) then ((a, i), overS H level L)
      else
        let p := (pairsL H).getD a.toNat zeroC
        let at2 : Int := (((a.toNat + 1) % (pairsL H).length : Nat) : Int)
        if (chosL L).contains p || (chosL L).contains (turnB p) then ((at2, i + 1), goesS)
        else
          let o := oneS H level L p
          ((at2, if o.facts = [] then i + 1 else 0), o) := by
      unfold stepS
      rw [hs, hlen, hr]
      rfl
    unfold endS
    dsimp only
    rw [hst]
    by_cases hi : i = ((pairsL H).length : Int)
    · rw [if_pos hi]
      obtain ⟨h1, h2⟩ := overS_said H level L
      rw [if_neg h1]
      exact ⟨_, _, _, rfl, h1, by omega, by dsimp only; rw [h2, List.append_nil]; exact hr, overS_true hr⟩
    · rw [if_neg hi]
      have hkp : 0 < (pairsL H).length := by omega
      have hp : a.toNat < (pairsL H).length := by omega
      rw [getD_of hp]
      have hpm : (pairsL H)[a.toNat] ∈ pairsL H := List.getElem_mem hp
      have hp1 := pairs_one hpm
      generalize (pairsL H)[a.toNat] = p at *
      have hmod : (a.toNat + 1) % (pairsL H).length < (pairsL H).length := Nat.mod_lt _ hkp
      generalize (a.toNat + 1) % (pairsL H).length = a2 at *
      have hsat : ∀ j : Int, 0 ≤ j → j ≤ ((pairsL H).length : Int) → satR H (a2 : Int) j = true := fun j h1 h2 => by
        unfold satR
        rw [hri, decide_eq_true h1, decide_eq_true h2, decide_eq_true (show (0 : Int) ≤ (a2 : Int) by omega), decide_eq_true (show (a2 : Int) < max ((pairsL H).length : Int) 1 by omega)]
        rfl
      dsimp only
      by_cases hin : ((chosL L).contains p || (chosL L).contains (turnB p)) = true
      · rw [if_pos hin]
        obtain ⟨o, M, k, e, h1, h2, h3, h4⟩ := ih (a2 : Int) (i + 1) L (hsat _ (by omega) (by omega)) hr hL (by omega)
        have h0 : goesS.said = 0 := rfl
        dsimp only
        rw [if_pos h0, show goesS.facts = [] from rfl, List.append_nil, e]
        exact ⟨o, M, k + 1, rfl, h1, by omega, h3, h4⟩
      · rw [if_neg hin]
        have hno : p ∉ chosL L ∧ turnB p ∉ chosL L := by simpa using hin
        dsimp only
        rcases oneS_said H level L p with ⟨h1, h2⟩ | ⟨h1, h2⟩
        · rw [if_pos h1]
          cases hf : (oneS H level L p).facts with
          | nil =>
            rw [if_pos rfl, List.append_nil]
            obtain ⟨o, M, k, e, g1, g2, g3, g4⟩ := ih (a2 : Int) (i + 1) L (hsat _ (by omega) (by omega)) hr hL (by omega)
            rw [e]
            exact ⟨o, M, k + 1, rfl, g1, by omega, g3, g4⟩
          | cons f r =>
            rw [hf] at h2
            obtain rfl : r = [] := List.eq_nil_of_length_eq_zero (by simpa using h2)
            rw [if_neg (by simp)]
            obtain ⟨q1, q2⟩ := oneS_holds hr hp1 (f := f) (by rw [hf]; simp)
            have hless := openN_less hpm hno.1 hno.2 q2
            have hr2 : replB H level (L ++ [f]) = true := by rw [replB_snoc, hr, q1]; rfl
            have hmul : (openN H (chosL L ++ [f.c]) + 1) * (pairsL H).length ≤ openN H (chosL L) * (pairsL H).length := Nat.mul_le_mul_right _ hless
            rw [Nat.add_mul, Nat.one_mul] at hmul
            obtain ⟨o, M, k, e, g1, g2, g3, g4⟩ := ih (a2 : Int) 0 (L ++ [f]) (hsat _ (by omega) (by omega)) hr2 (by rw [chosL_snoc, List.length_append, List.length_singleton]; omega) (by rw [chosL_snoc]; simp only [Int.toNat_zero]; omega)
            rw [e]
            exact ⟨o, M, k + 1, rfl, g1, by omega, g3, g4⟩
        · have h3 : (oneS H level L p).said ≠ 0 := by rw [h1]; decide
          rw [if_neg h3]
          exact ⟨_, _, _, rfl, h3, by omega, by rw [h2, List.append_nil]; exact hr, .inr (.inr ⟨h1, oneS_no hr hp1 h1⟩)⟩
/-- From the start on. -/
theorem endS_start {H : List Txn} {level : Int} (hm : mayB H level = true) {n : Nat} (hn : ((pairsL H).length + 1) * ((pairsL H).length + 1) ≤ n) :
    ∃ o M k, endS H level n 0 0 [] = some (o, M, k) ∧ o.said ≠ 0 ∧ k ≤ n ∧ replB H level M = true ∧ (o.said = 3 ∨ (o.said = 1 ∧ hasB H level = true) ∨ (o.said = 2 ∧ hasB H level = false)) := by
  have hri := (may_iff.1 hm).1
  have ho := openN_le H (chosL [])
  have hmul : openN H (chosL []) * (pairsL H).length ≤ (pairsL H).length * (pairsL H).length := Nat.mul_le_mul_right _ ho
  refine endS_ends n 0 0 [] ?_ ?_ (by simp; exact ho) ?_
  · unfold satR
    rw [hri, decide_eq_true (show (0 : Int) ≤ ((pairsL H).length : Int) by omega), decide_eq_true (show (0 : Int) < max ((pairsL H).length : Int) 1 by omega)]
    rfl
  · rw [replB_iff]
    exact ⟨hm, fun i hi => by simp at hi⟩
  · rw [Nat.add_mul, Nat.mul_add, Nat.mul_one, Nat.one_mul] at hn
    simp only [Int.toNat_zero]
    omega
end Go.Proofs.YtjomijnbnbideaaGreatDoor

namespace Go.Proofs.YtjomijnbnbideaaGreatDoor
open Go Go.RowKit Go.Inq

def endT (H : List Txn) (level : Int) : Nat → Int → Int → List Fct → Say × List Fct × Nat
  | 0, _, _, L => (goesS, L, 0)
  | n + 1, a, i, L =>
    let r := stepS H level a i L
    if r.2.said = 0 then
      let x := endT H level n r.1.1 r.1.2 (L ++ r.2.facts)
      (x.1, x.2.1, x.2.2 + 1)
    else (r.2, L ++ r.2.facts, 1)
theorem endT_endS {H : List Txn} {level : Int} : ∀ (n : Nat) (a i : Int) (L : List Fct) (x : Say × List Fct × Nat), endS H level n a i L = some x → endT H level n a i L = x := by
  intro n
  induction n with
  | zero => intro a i L x h; exact absurd h (by unfold endS; simp)
  | succ n ih =>
    intro a i L x h
    unfold endS at h
    unfold endT
    dsimp only at h ⊢
    by_cases hs : (stepS H level a i L).2.said = 0
    · rw [if_pos hs] at h ⊢
      cases he : endS H level n (stepS H level a i L).1.1 (stepS H level a i L).1.2 (L ++ (stepS H level a i L).2.facts) with
      | none => rw [he] at h; cases h
      | some y =>
        rw [he] at h
        rw [ih _ _ _ y he]
        simpa using h
    · rw [if_neg hs] at h ⊢
      simpa using h
/-- Facts whose cycles a walk can count. -/
def CycF (L : List Fct) : Prop := ∀ f ∈ L, f.cyc.length ≤ 1000000
theorem joinF_cyc {H : List Txn} {level : Int} {L : List Fct} {c : Cho} {f : Fct} (h : joinF H level L c = some f) : f.cyc = [] := by
  unfold joinF at h
  have hm := List.mem_of_find?_eq_some h
  rw [List.mem_map] at hm
  obtain ⟨x, -, rfl⟩ := hm
  rfl
theorem stepS_fit {H : List Txn} {level a i : Int} {L : List Fct} : (stepS H level a i L).2.facts.length ≤ 1 ∧ CycF (stepS H level a i L).2.facts := by
  unfold stepS
  split
  · rename_i hg
    have hr : rightH H = true := by
      simp only [Bool.and_eq_true] at hg
      have h1 := hg.1.1
      unfold satR at h1
      simp only [Bool.and_eq_true] at h1
      exact h1.1.1.1.1
    have hn := ((rightH_iff H).1 hr).1
    have hfl : ∀ x, (findC H level x).length ≤ 1000000 := fun x => by
      unfold findC; rw [List.length_map]; exact Nat.le_trans findL_len (by omega)
    split
    · obtain ⟨-, h2⟩ := overS_said H level L
      dsimp only
      rw [h2]
      exact ⟨by simp, fun f hf => by cases hf⟩
    · dsimp only
      split
      · exact ⟨by simp [goesS], fun f hf => by simp [goesS] at hf⟩
      · dsimp only
        generalize (pairsL H).getD a.toNat zeroC = p
        refine ⟨by rcases oneS_said H level L p with ⟨-, h⟩ | ⟨-, h⟩ <;> simp [h] <;> omega, ?_⟩
        unfold oneS
        split
        · rename_i f hf
          intro g hg
          obtain rfl : g = f := by simpa using hg
          rw [joinF_cyc hf]; simp
        · split
          · rename_i f hf
            intro g hg
            obtain rfl : g = f := by simpa using hg
            rw [joinF_cyc hf]; simp
          · dsimp only
            split
            · split
              · intro g hg; simp [goesS] at hg
              · intro g hg
                obtain rfl : g = _ := by simpa using hg
                exact hfl _
            · split
              · intro g hg
                obtain rfl : g = _ := by simpa using hg
                exact hfl _
              · intro g hg; simp at hg
  · exact ⟨by simp [stuckS], fun f hf => by simp [stuckS] at hf⟩
theorem endT_fit {H : List Txn} {level : Int} : ∀ (n : Nat) (a i : Int) (L : List Fct), CycF L → CycF (endT H level n a i L).2.1 ∧ (endT H level n a i L).2.1.length ≤ L.length + n ∧ (endT H level n a i L).2.2 ≤ n := by
  intro n
  induction n with
  | zero => intro a i L h; exact ⟨h, Nat.le_refl _, Nat.le_refl _⟩
  | succ n ih =>
    intro a i L h
    obtain ⟨h1, h2⟩ := stepS_fit (H := H) (level := level) (a := a) (i := i) (L := L)
    have h3 : CycF (L ++ (stepS H level a i L).2.facts) := fun f hm => (List.mem_append.1 hm).elim (h f) (h2 f)
    unfold endT
    dsimp only
    split
    · obtain ⟨g1, g2, g3⟩ := ih (stepS H level a i L).1.1 (stepS H level a i L).1.2 _ h3
      rw [List.length_append] at g2
      exact ⟨g1, by dsimp only; omega, by dsimp only; omega⟩
    · exact ⟨h3, by dsimp only; rw [List.length_append]; omega, by dsimp only; omega⟩
/-- What is known between the rounds. -/
structure EndJ (H : List Txn) (level : Int) (N k : Nat) (a i : Int) (L : List Fct) (F : Say × List Fct × Nat) : Prop where
  le : k ≤ N
  len : L.length ≤ k
  cyc : CycF L
  fin : F = ((endT H level (N - k) a i L).1, (endT H level (N - k) a i L).2.1, (endT H level (N - k) a i L).2.2 + k)
theorem EndJ.start {H : List Txn} {level : Int} {N : Nat} : EndJ H level N 0 0 0 [] (endT H level N 0 0 []) :=
  ⟨Nat.zero_le _, by simp, fun f hf => by simp at hf, by simp⟩
theorem EndJ.last {H : List Txn} {level : Int} {N : Nat} {a i : Int} {L : List Fct} {F : Say × List Fct × Nat} (h : EndJ H level N N a i L F) : F = (goesS, L, N) := by
  have h1 := h.fin
  rw [Nat.sub_self] at h1
  rw [h1]
  unfold endT
  simp
theorem EndJ.step {H : List Txn} {level : Int} {N k : Nat} {a i : Int} {L : List Fct} {F : Say × List Fct × Nat} (h : EndJ H level N k a i L F) (hk : k < N) {r : (Int × Int) × Say} (hr : stepS H level a i L = r) :
    r.2.facts.length ≤ 1 ∧ (r.2.said = 0 → EndJ H level N (k + 1) r.1.1 r.1.2 (L ++ r.2.facts) F) ∧ (r.2.said ≠ 0 → F = (r.2, L ++ r.2.facts, k + 1)) := by
  obtain ⟨h1, h2⟩ := stepS_fit (H := H) (level := level) (a := a) (i := i) (L := L)
  rw [hr] at h1 h2
  have hf := h.fin
  rw [show N - k = (N - (k + 1)) + 1 by omega] at hf
  unfold endT at hf
  dsimp only at hf
  rw [hr] at hf
  have hl := h.len
  refine ⟨h1, fun hs => ⟨hk, by rw [List.length_append]; omega, fun f hm => ?_, ?_⟩, fun hs => ?_⟩
  · rcases List.mem_append.1 hm with g | g
    · exact h.cyc f g
    · exact h2 f g
  · rw [if_pos hs] at hf
    rw [hf]
    dsimp only
    rw [show k + 1 = 1 + k by omega, ← Nat.add_assoc]
  · rw [if_neg hs] at hf
    rw [hf, Nat.add_comm 1 k]
/-- append(s, x): both rows of the call's own, whose elements lead to blocks of some types. -/
theorem wpList_appendT {P : Program} {W : World} {ops : Array Oper} {rest : List Oper} {o : Oper} {a : Act} {Q : Exit → Act → World → Prop} {α : Type} {R : World → (Nat → Prop) → List Value → α → Prop}
    (hR : Stab R) (hone : ∀ w K cs x, R w K cs x → ∀ u ∈ cs, u.oneCell' = true)
    (hgd : o.guard = none) (s x : Operand) (t : TypeId) (ho : o.op = .call { callee := .builtin .append, args := #[s, x], argTypes := #[t, t] })
    (base : Nat) (e : TypeId) (i : TypeInfo) (z : Value) (size bytes : Nat) (ht : P.underlying t = some (.slice e)) (hi : P.info? e = some i) (hz : i.zero = some z)
    (hsize : i.size = size) (hby : i.bytes = bytes) (hzs : z.cells.size = size) (hsz : 0 < size)
    (τs : List TypeId) (hτ : e ∉ τs) (v : Value) (l : List α) (hs : a.eval s = v) (hown : OwnR size R W (TyK base τs W) base e v l)
    (base2 : Nat) (vx : Value) (l2 : List α) (hx : a.eval x = vx) (hown2 : OwnR size R W (TyK base2 τs W) base2 e vx l2) (hb2 : base ≤ base2)
    (h63 : l.length + l2.length ≤ maxLen) (hbytes : (l.length + l2.length) * bytes ≤ 140737488355328) (hbase : base ≤ W.heap.size) (n0 : Nat) (hn0 : n0 ≤ base)
    (h : ∀ v' w', OwnR size R w' (TyK base τs w') base e v' (l ++ l2) → TyW n0 [e] W w' → W.grownBy w' v.ownBlock → wpList P ops Q rest (a.put o.dst v') w') :
    wpList P ops Q (o :: rest) a W := by
  obtain ⟨ys, h1, h2, h3⟩ := hown
  obtain ⟨zs, k1, k2, k3⟩ := OwnR.baseT hR hown2 hb2
  have all : ∀ (ys : List (List Value)) (l : List α), ys.length = l.length → (∀ (j : Nat) y x, ys[j]? = some y → l[j]? = some x → y.length = size ∧ R W (TyK base τs W) y x) → ∀ y ∈ ys, y.length = size ∧ ∀ u ∈ y, u.oneCell' = true := fun ys l h2 h3 y hy => by
    obtain ⟨j, hj, rfl⟩ := List.getElem_of_mem hy
    obtain ⟨g1, g2⟩ := h3 j ys[j] (l[j]'(by omega)) (List.getElem?_eq_getElem hj) (List.getElem?_eq_getElem (by omega))
    exact ⟨g1, hone _ _ _ _ g2⟩
  let enc : { y : List Value // y.length = size ∧ ∀ u ∈ y, u.oneCell' = true } → List Value := fun y => y.1
  let ts : List { y : List Value // y.length = size ∧ ∀ u ∈ y, u.oneCell' = true } := ys.pmap Subtype.mk (all ys l h2 h3)
  let us : List { y : List Value // y.length = size ∧ ∀ u ∈ y, u.oneCell' = true } := zs.pmap Subtype.mk (all zs l2 k2 k3)
  have hts : ts.map enc = ys := by
    show (ys.pmap Subtype.mk _).map (fun y => y.1) = ys
    rw [List.map_pmap, List.pmap_eq_map, List.map_id']
  have hus : us.map enc = zs := by
    show (zs.pmap Subtype.mk _).map (fun y => y.1) = zs
    rw [List.map_pmap, List.pmap_eq_map, List.map_id']
  have htl : ts.length = l.length := by rw [← h2, ← hts, List.length_map]
  have hul : us.length = l2.length := by rw [← k2, ← hus, List.length_map]
  refine wpList_append_flat (enc := enc) hgd s x t ho base e i z size bytes ht hi hz hsize hby hzs hsz v (fun _ => True) ts hs (by rw [htl, hts]; exact h1) (fun y => y.2.1) vx us hx (SlR.of_flat (n := l2.length) (by rw [hus]; exact k1) hul.symm (fun y => y.2.1) fun _ _ _ => trivial) (fun y => y.2.2) (by rw [htl, hul]; exact h63) (by rw [htl, hul]; exact hbytes) hbase ?_
  intro v' w' g1 g2 g3
  have hT : TyW n0 [e] W w' := TyW.grown (by rw [htl, hts] at *; exact h1) g2 (by simp) hn0 (Nat.le_trans hn0 hbase)
  have hA1 : Agree (TyK base τs W) W w' := hT.agree fun t ht e' => hτ (by rw [List.mem_singleton] at e'; rw [← e']; exact ht)
  rw [List.map_append, hts, hus, List.length_append, htl, hul] at g1
  refine h v' w' ⟨ys ++ zs, by rw [List.length_append]; exact g1, by simp [h2, k2], fun j y x' e1 e2 => ?_⟩ hT g2
  by_cases hj : j < ys.length
  · rw [List.getElem?_append_left hj] at e1
    rw [List.getElem?_append_left (by omega)] at e2
    obtain ⟨q1, q2⟩ := h3 j y x' e1 e2
    exact ⟨q1, hR _ _ _ _ _ _ q2 hA1 fun _ g => TyK.step hA1 g⟩
  · rw [List.getElem?_append_right (by omega)] at e1 e2
    rw [h2] at e1
    obtain ⟨q1, q2⟩ := k3 _ y x' e1 e2
    exact ⟨q1, hR _ _ _ _ _ _ q2 hA1 fun _ g => TyK.step hA1 g⟩
end Go.Proofs.YtjomijnbnbideaaGreatDoor

namespace Go.Proofs.YtjomijnbnbideaaGreatDoor
open Go.RowKit Go.Inq
set_option maxHeartbeats 8000000
attribute [local go_sem ↓] Go.wp_at_zero Go.wp_at_succ

/-- What lies in memory between the rounds. -/
structure EndW (w wr : World) (A : Option Addr) (c : Nat) (H : List Txn) (a i : Int) (v : Value) (L : List Fct) : Prop where
  below : Below w.heap.size w wr
  kh : Blk wr w.heap.size 24 #[.slice A H.length c]
  ko : Blk wr (w.heap.size + 1) 35 #[.int .i64 0, .slice none 0 0, .slice none 0 0, .slice none 0 0]
  ks : Blk wr (w.heap.size + 1 + 1) 64 #[.int .i64 a, .int .i64 i]
  own : FctO wr w.heap.size v L
/-- What comes back. -/
def EndOut (w : World) (F : Say × List Fct × Nat) (e : Ending) (w' : World) : Prop := ∃ v vf, e = .returned (.tuple #[v, vf, .int .i64 (F.2.2 : Int)]) ∧ SayV w' w.heap.size v F.1 ∧ FctO w' w.heap.size vf F.2.1 ∧ Below w.heap.size w w'
set_option maxRecDepth 100000 in
theorem ends29_any (A : Option Addr) (c : Nat) (H : List Txn) (level : Int) (N : Nat) (w : World) (h : TxnS w (Old w) (.slice A H.length c) H) (hn : SmallH H) (hN : N ≤ 1000000) (hTB : TabB w) :
    Calls Tryz.prog 39 #[.agg #[.slice A H.length c], .int .i64 level, .int .i64 (N : Int)] w (EndOut w (endT H level N 0 0 [])) := by
  obtain ⟨ifa, hifa, hifa1, hifa2, hifa3⟩ := info_parts infoFct
  obtain ⟨W1, hW1⟩ : ∃ W1, w.alloc (.cells #[.slice A H.length c] 24) = W1 := ⟨_, rfl⟩
  obtain ⟨W2, hW2⟩ : ∃ W2, W1.alloc (.cells #[.int .i64 0, .slice none 0 0, .slice none 0 0, .slice none 0 0] 35) = W2 := ⟨_, rfl⟩
  obtain ⟨W3, hW3⟩ : ∃ W3, W2.alloc (.cells #[.int .i64 0, .int .i64 0] 64) = W3 := ⟨_, rfl⟩
  have s1 := size_allocEq hW1
  have s2 := size_allocEq hW2
  have s3 := size_allocEq hW3
  have hR0 : Hid (EndW w W3 A c H 0 0 (.slice none 0 0) []) := hide
    { below := below_allocEq (below_allocEq (below_allocEq (Below.refl w.heap.size w) hW1 (Nat.le_refl _)) hW2 (by omega)) hW3 (by omega)
      kh := ((Blk.newEq hW1).allocEq hW2).allocEq hW3
      ko := by rw [← s1]; exact (Blk.newEq hW2).allocEq hW3
      ks := by rw [← s1, ← s2]; exact Blk.newEq hW3
      own := FctO.nil _ _ }
  obtain ⟨F, hF⟩ : ∃ F, endT H level N 0 0 [] = F := ⟨_, rfl⟩
  have hJ0 : Hid (EndJ H level N 0 0 0 [] F) := hide (by rw [← hF]; exact EndJ.start)
  rw [hF]
  clear hF
  have hst := hide (fun a i Al cl L W (hb : Below w.heap.size w W) (hL : FctS W (Old W) (.slice Al (List.length L) cl) L) (hf : FitF L) => step29_any A c H level a i Al cl L W (h.below hb) hn hL hf (hTB.below hb))
  clear h hTB hn
  go_enter Tryz.func39, Tryz.ntmps39
  go_wp2_with fail
  clear hW1 hW2 hW3 s1 s2 s3
  go_loopw [10, 11] (fun s10 s11 wr => ∃ (k : Nat) (a i : Int) (L : List Fct), s11 = .int .i64 (k : Int) ∧ EndW w wr A c H a i s10 L ∧ Hid (EndJ H level N k a i L F)) (fun _ s11 _ => N - (intOf s11).toNat)
  case atStart => exact ⟨0, 0, 0, [], by go_num, hR0.out, hJ0⟩
  case round =>
    clear hR0 hJ0
    obtain ⟨Wr, rfl⟩ : ∃ Wr, Wr = wr := ⟨_, rfl⟩
    obtain ⟨k, a, i, L, rfl, ⟨hb, kh, ko, ks, hO⟩, hJ⟩ := hrel
    have hk1 : (0 : Int) ≤ (k : Int) := Int.natCast_nonneg _
    have hkN := hJ.out.le
    obtain ⟨Al, cl, rfl⟩ := OwnR.form hO
    have c0 := kh.cell 0
    have s0 := ks.cell 0
    have s1 := ks.cell 1
    simp only [List.getElem?_toArray, List.getElem?_cons_zero, List.getElem?_cons_succ] at c0 s0 s1
    have hown0 := hide (fun g => OwnR.lt hO g)
    by_cases hlt : k < N
    · have hk2 : (k : Int) < (N : Int) := by omega
      have hlen := hJ.out.len
      have hc := hide (hst.out a i Al cl L Wr hb hO.s ⟨by omega, hJ.out.cyc⟩)
      have hE := hide (hJ.out.step hlt rfl)
      generalize stepS H level a i L = r at *
      obtain ⟨⟨x, y⟩, o⟩ := r
      dsimp only at hE
      replace hO := hide hO
      clear hJ
      go_wp2_with fail
      refine hc.out.mono ?_
      rintro e W4 ⟨v, rfl, hv, hb4⟩
      obtain ⟨vo, vt, vf, rfl, o1, o2, o3⟩ := hv
      obtain ⟨Ao, co, rfl⟩ := OwnI.form o1
      obtain ⟨At, ct, rfl⟩ := OwnR.form o2
      obtain ⟨Af, cf, rfl⟩ := OwnR.form o3
      have hown1 := hide (fun g => OwnR.lt o3 g)
      have hv : SayV W4 Wr.heap.size (.agg #[.int .i64 o.said, .slice Ao (intsN o.order).length co, .slice At o.tree.length ct, .slice Af o.facts.length cf]) o := ⟨_, _, _, rfl, o1, o2, o3⟩
      clear hc s0 s1 c0 o1 o2 o3
      go_upto_region 7 with fail
      obtain ⟨X, hX⟩ : ∃ X, (W4.alloc (.cells #[.int .i64 x, .int .i64 y] 64)).alloc (.cells #[.int .i64 o.said, .slice Ao (intsN o.order).length co, .slice At o.tree.length ct, .slice Af o.facts.length cf] 35) = X := ⟨_, rfl⟩
      rw [hX]
      have hbX := below_two hX
      have kt := Blk.two1 hX
      have kx := Blk.two2 hX
      have hs4 := hb4.size
      have hsr := hb.size
      have hbA := hb4.trans (hbX.mono hs4)
      have hB := hb.trans (hbA.mono hsr)
      have hg4 : w.heap.size + 1 + 1 < W4.heap.size := by have := ks.lt; omega
      replace kh := kh.below hbA kh.lt
      replace ko := ko.below hbA ko.lt
      replace ks := ks.below hbA ks.lt
      have hO := hide (FctO.below hO.out hbA)
      have hv := hide ((hv.below hbX).base (base' := w.heap.size) hsr)
      clear hX hbX hbA hb4 hb
      generalize W4.heap.size = g4 at *
      have hP : Hid (TyW w.heap.size [64] X ((X.setCell ⟨w.heap.size + 1 + 1, 0, none⟩ (.int .i64 x)).setCell ⟨w.heap.size + 1 + 1, 1, none⟩ (.int .i64 y))) := hide ((TyW.put ks (by omega) (by simp) (i := 0) (.int .i64 x)).trans (TyW.put (ks.set_ 0 _) (by omega) (by simp) (i := 1) (.int .i64 y)))
      have kP := hide ((ks.set_ 0 (.int .i64 x)).set_ 1 (.int .i64 y))
      have z0 := ks.cell 0
      have z1 := ks.cell 1
      have f0 := ks.frozen 0
      have f1 := ks.frozen 1
      have t0 := kt.cell 0
      have t1 := kt.cell 1
      simp only [List.getElem?_toArray, List.getElem?_cons_zero, List.getElem?_cons_succ] at z0 z1 t0 t1
      go_upto_region 8 with fail
      generalize hY : (X.setCell ⟨w.heap.size + 1 + 1, 0, none⟩ (.int .i64 x)).setCell ⟨w.heap.size + 1 + 1, 1, none⟩ (.int .i64 y) = Y at *
      replace hP := hP.out
      replace kP := kP.out
      simp only [List.setIfInBounds_toArray, List.set_cons_zero, List.set_cons_succ] at kP
      have kh2 := hP.blk kh (by decide)
      have ko2 := hP.blk ko (by decide)
      have kx2 := hP.blk kx (by decide)
      have hO2 := hide (hP.ownR FctR.stab hO.out (by decide))
      have hB2 := hB.trans hP.below
      obtain ⟨vo, vt, vf, he, o1, o2, o3⟩ := hv.out
      simp only [Value.agg.injEq, Array.mk.injEq, List.cons.injEq, and_true, true_and] at he
      obtain ⟨rfl, rfl, rfl⟩ := he
      have o1 := hide (hP.own o1 (by decide))
      have o2 := hide (hP.ownR NodR.stab o2 (by decide))
      have o3 := hide (hP.ownR FctR.stab o3 (by decide))
      have hs2 := hB2.size
      clear hv hO hP hY kh ko ks kt kx hB t0 t1 z0 z1 f0 f1
      have x0 := kx2.cell 0
      have x3 := kx2.cell 3
      simp only [List.getElem?_toArray, List.getElem?_cons_zero, List.getElem?_cons_succ] at x0 x3
      have hfl := hE.out.1
      go_upto_region 9 with (at_builtin; refine wpList_appendT FctR.stab fct_one rfl _ _ 33 rfl w.heap.size 51 ifa _ 7 72 Tryz.underlying33 hifa hifa1 hifa2 hifa3 rfl (by decide) [3] (by decide) (.slice Al L.length cl) L rfl hO2.out w.heap.size (.slice Af o.facts.length cf) o.facts rfl o3.out (Nat.le_refl _) (by unfold maxLen; omega) (by omega) hs2 w.heap.size (Nat.le_refl _) ?_; intro v6 W6 hown6 hT6 hg6)
      have kh6 := hT6.blk kh2 (by decide)
      have ks6 := hT6.blk kP (by decide)
      have ko6 := hT6.blk ko2 (by decide)
      have kx6 := hT6.blk kx2 (by decide)
      have hB6 := hB2.trans hT6.below
      have o1 := hide (hT6.own o1.out (by decide))
      have o2 := hide (hT6.ownR NodR.stab o2.out (by decide))
      have hs6 := hT6.size
      have o3 := hide (show FctO W6 w.heap.size (.slice Af o.facts.length cf) o.facts from o3.out.keepT FctR.stab (hT6.agree (by decide)) fun g hg => by
        obtain ⟨cs, hk⟩ := o3.out.blk hg
        exact (show W6.heap[g]? = _ from hk.grown hg6 (fun e => by have := (hown0.out g e.symm).2; have := (hown1.out g hg).1; omega)).trans hk.symm)
      obtain ⟨A6, c6, rfl⟩ := OwnR.form hown6
      replace hown6 := hide hown6
      clear x0 x3 hO2 kh2 kP ko2 kx2 hT6 hg6 hB2 hs2 hown0 hown1
      have x0 := kx6.cell 0
      have x1 := kx6.cell 1
      have x2 := kx6.cell 2
      have x3 := kx6.cell 3
      simp only [List.getElem?_toArray, List.getElem?_cons_zero, List.getElem?_cons_succ] at x0 x1 x2 x3
      by_cases hs : o.said = 0
      · have g0 : (o.said == 0) = true := by simpa using hs
        have g1 : (o.said != 0) = false := by simpa using hs
        go_wp2
        go_roundw
        case rel => exact ⟨k + 1, x, y, L ++ o.facts, by go_num, ⟨hB6, kh6, ko6, ks6, hown6.out⟩, hide (hE.out.2.1 hs)⟩
        case measure => simp [intOf]; omega
      · have g0 : (o.said == 0) = false := by simpa using hs
        have g1 : (o.said != 0) = true := by simpa using hs
        have hF := hE.out.2.2 hs
        have wr1 : IntKind.i64.wrap ((k : Int) + 1) = (k : Int) + 1 := Go.IntWalk.i64_in _ (by omega)
        have wr2 : RowKit.wrap64 ((k : Int) + 1) = (k : Int) + 1 := Go.IntWalk.wrap64_in _ (by omega)
        have z0 := ko6.cell 0
        have z1 := ko6.cell 1
        have z2 := ko6.cell 2
        have z3 := ko6.cell 3
        have f0 := ko6.frozen 0
        have f1 := ko6.frozen 1
        have f2 := ko6.frozen 2
        have f3 := ko6.frozen 3
        simp only [List.getElem?_toArray, List.getElem?_cons_zero, List.getElem?_cons_succ] at z0 z1 z2 z3
        have hBo := hide (setO_below (a := (.int .i64 o.said)) (b := (.slice Ao (intsN o.order).length co)) (c := (.slice At o.tree.length ct)) (d := (.slice Af o.facts.length cf)) hB6 (show w.heap.size ≤ w.heap.size + 1 by omega))
        have hTo := setO_ty (n0 := w.heap.size) (a := (.int .i64 o.said)) (b := (.slice Ao (intsN o.order).length co)) (c := (.slice At o.tree.length ct)) (d := (.slice Af o.facts.length cf)) ko6 (by omega)
        have kz := setO_blk (a := (.int .i64 o.said)) (b := (.slice Ao (intsN o.order).length co)) (c := (.slice At o.tree.length ct)) (d := (.slice Af o.facts.length cf)) ko6
        have y0 := kz.cell 0
        have y1 := kz.cell 1
        have y2 := kz.cell 2
        have y3 := kz.cell 3
        unfold setO at y0 y1 y2 y3
        simp only [List.getElem?_toArray, List.getElem?_cons_zero, List.getElem?_cons_succ] at y0 y1 y2 y3
        have hfin := hide (show SayV (setO W6 (w.heap.size + 1) (.int .i64 o.said) (.slice Ao (intsN o.order).length co) (.slice At o.tree.length ct) (.slice Af o.facts.length cf)) w.heap.size (.agg #[.int .i64 o.said, .slice Ao (intsN o.order).length co, .slice At o.tree.length ct, .slice Af o.facts.length cf]) o from ⟨_, _, _, rfl, hTo.own o1.out (by decide), hTo.ownR NodR.stab o2.out (by decide), hTo.ownR FctR.stab o3.out (by decide)⟩)
        have hfac := hide (hTo.ownR FctR.stab hown6.out (by decide))
        clear hs hTo kz
        go_wp2_with fail
        repeat' (first | go_values | go_skip | go_guarded | go_step | go_upon)
        try simp only [Exit.inBlock, Exit.then]
        refine bodyPost_ret (v := .tuple #[.agg #[(.int .i64 o.said), (.slice Ao (intsN o.order).length co), (.slice At o.tree.length ct), (.slice Af o.facts.length cf)], (.slice A6 (L ++ o.facts).length c6), .int .i64 ((k : Int) + 1)]) (by simp [results, Tryz.results39, go_sem, y0, y1, y2, y3]) rfl ?_
        rw [hF]
        exact ⟨_, _, rfl, hfin.out, hfac.out, hBo.out⟩
    · obtain rfl : k = N := by omega
      have hF := hJ.out.last
      have z0 := ko.cell 0
      have z1 := ko.cell 1
      have z2 := ko.cell 2
      have z3 := ko.cell 3
      have f0 := ko.frozen 0
      have f1 := ko.frozen 1
      have f2 := ko.frozen 2
      have f3 := ko.frozen 3
      simp only [List.getElem?_toArray, List.getElem?_cons_zero, List.getElem?_cons_succ] at z0 z1 z2 z3
      have hBo := hide (setO_below (a := (.int .i64 0)) (b := (.slice none 0 0)) (c := (.slice none 0 0)) (d := (.slice none 0 0)) hb (show w.heap.size ≤ w.heap.size + 1 by omega))
      have hTo := setO_ty (n0 := w.heap.size) (a := (.int .i64 0)) (b := (.slice none 0 0)) (c := (.slice none 0 0)) (d := (.slice none 0 0)) ko (by omega)
      have kz := setO_blk (a := (.int .i64 0)) (b := (.slice none 0 0)) (c := (.slice none 0 0)) (d := (.slice none 0 0)) ko
      have y0 := kz.cell 0
      have y1 := kz.cell 1
      have y2 := kz.cell 2
      have y3 := kz.cell 3
      unfold setO at y0 y1 y2 y3
      simp only [List.getElem?_toArray, List.getElem?_cons_zero, List.getElem?_cons_succ] at y0 y1 y2 y3
      have hfac := hide (hTo.ownR FctR.stab hO (by decide))
      clear hTo kz hst hlt
      go_wp2_with fail
      repeat' (first | go_values | go_skip | go_guarded | go_step | go_upon)
      try simp only [Exit.inBlock, Exit.then]
      refine bodyPost_ret (v := .tuple #[.agg #[(.int .i64 0), (.slice none 0 0), (.slice none 0 0), (.slice none 0 0)], (.slice Al L.length cl), .int .i64 (k : Int)]) (by simp [results, Tryz.results39, go_sem, y0, y1, y2, y3]) rfl ?_
      rw [hF]
      exact ⟨_, _, rfl, ⟨_, _, _, rfl, World.ownsRow_nil _ _ _ _, NodO.nil _ _, FctO.nil _ _⟩, hfac.out, hBo.out⟩
end Go.Proofs.YtjomijnbnbideaaGreatDoor

namespace Go.Proofs.YtjomijnbnbideaaGreatDoor
open Go.RowKit Go.Inq
set_option maxHeartbeats 8000000
attribute [local go_sem ↓] Go.wp_at_zero Go.wp_at_succ

theorem txnS_two29 {W : World} {K : Nat → Prop} {g : Nat} {t0 t1 : Txn} {vw0 vr0 vw1 vr1 : Value} (h : Blk W g 101 #[.int .i64 t0.sess, vw0, vr0, .int .i64 t1.sess, vw1, vr1]) (h0 : IntS W K vw0 t0.writes) (h1 : ItS W K vr0 t0.reads) (h2 : IntS W K vw1 t1.writes) (h3 : ItS W K vr1 t1.reads) (hK : K g) :
    TxnS W K (.slice (some ⟨g, 0, none⟩) 2 2) [t0, t1] :=
  slr_blk (l := [t0, t1]) [[.int .i64 t0.sess, vw0, vr0], [.int .i64 t1.sess, vw1, vr1]] h rfl (fun i cs x q1 q2 => by
    match i with
    | 0 => simp at q1 q2; subst q1 q2; exact ⟨rfl, _, _, rfl, h0, h1⟩
    | 1 => simp at q1 q2; subst q1 q2; exact ⟨rfl, _, _, rfl, h2, h3⟩
    | i + 2 => simp at q1) hK (by simp)
def exS : List Txn := [⟨0, [2], [⟨2, -1⟩]⟩, ⟨1, [2], [⟨2, 0⟩]⟩]
theorem exS_pairs : pairsL exS = [⟨2, 0, 1⟩] := by
  unfold pairsL
  rw [keysL_16 (by decide)]
  kernel_rfl
def exF : Fct := ⟨⟨2, 0, 1⟩, 4, 0, 0, [0, 1]⟩
theorem ex29_a : stepS exS 0 0 0 [] = ((0, 0), ⟨0, [], [], [exF]⟩) := by
  unfold stepS satR
  rw [exS_pairs]
  kernel_rfl
theorem ex29_b : stepS exS 0 0 1 [exF] = ((0, 1), ⟨1, [0, 1], [], []⟩) := by
  unfold stepS satR overS openO
  rw [exS_pairs]
  kernel_rfl
theorem ex29_c : stepS exS 0 1 0 [] = ((1, 0), ⟨3, [], [], []⟩) := by
  unfold stepS satR
  rw [exS_pairs]
  kernel_rfl
theorem ex29_d : satR exS 0 1 = true := by
  unfold satR
  rw [exS_pairs]
  kernel_rfl
theorem ex29_e : satR exS 0 2 = false := by
  unfold satR
  rw [exS_pairs]
  kernel_rfl

/-- A variable of a law's own that holds what was said. -/
structure SayB (w : World) (gs g : Nat) (x y : Int) (o : Say) (vf : Value) : Prop where
  ks : Blk w gs 64 #[.int .i64 x, .int .i64 y]
  ko : ∃ vo vt, Blk w g 35 #[.int .i64 o.said, vo, vt, vf]
  fs : FctO w 0 vf o.facts
theorem SayB.below {w w' : World} {gs g : Nat} {x y : Int} {o : Say} {vf : Value} (h : SayB w gs g x y o vf) (hb : Below w.heap.size w w') : SayB w' gs g x y o vf := by
  obtain ⟨vo, vt, h2⟩ := h.ko
  exact ⟨h.ks.below hb h.ks.lt, ⟨vo, vt, h2.below hb h2.lt⟩, h.fs.below hb⟩
theorem OwnI.any {w : World} {base : Nat} {v : Value} {l : List Int} (h : OwnI w base v l) : ∃ A n c, v = .slice A n c := by
  obtain ⟨A, c, e⟩ := OwnI.form h
  exact ⟨A, _, c, e⟩
theorem NodO.any {w : World} {base : Nat} {v : Value} {l : List Nod} (h : NodO w base v l) : ∃ A n c, v = .slice A n c := by
  obtain ⟨A, c, e⟩ := OwnR.form h
  exact ⟨A, _, c, e⟩
set_option maxRecDepth 100000 in
theorem awake29_any (w : World) (hTB : TabB w) : Calls Tryz.prog 30 #[] w fun e w' => e = .returned (.bool true) ∧ Below w.heap.size w w' := by
  have hE1 := hide ex29_a
  have hE2 := hide ex29_b
  have hE3 := hide ex29_c
  have hE4 := hide ex29_d
  have hE5 := hide ex29_e
  obtain ⟨W1, hW1⟩ : ∃ W1, w.alloc (.cells #[.int .i64 2] 3) = W1 := ⟨_, rfl⟩
  obtain ⟨W2, hW2⟩ : ∃ W2, W1.alloc (.cells #[.int .i64 2, .int .i64 (-1)] 112) = W2 := ⟨_, rfl⟩
  obtain ⟨W3, hW3⟩ : ∃ W3, W2.alloc (.cells #[.int .i64 2] 3) = W3 := ⟨_, rfl⟩
  obtain ⟨W4, hW4⟩ : ∃ W4, W3.alloc (.cells #[.int .i64 2, .int .i64 0] 112) = W4 := ⟨_, rfl⟩
  obtain ⟨W5, hW5⟩ : ∃ W5, W4.alloc (.cells #[.int .i64 0, .slice (some ⟨w.heap.size, 0, none⟩) 1 1, .slice (some ⟨W1.heap.size, 0, none⟩) 1 1, .int .i64 1, .slice (some ⟨W2.heap.size, 0, none⟩) 1 1, .slice (some ⟨W3.heap.size, 0, none⟩) 1 1] 101) = W5 := ⟨_, rfl⟩
  obtain ⟨W6, hW6⟩ : ∃ W6, W5.alloc (.cells #[.slice (some ⟨W4.heap.size, 0, none⟩) 2 2] 24) = W6 := ⟨_, rfl⟩
  have s1 := size_allocEq hW1
  have s2 := size_allocEq hW2
  have s3 := size_allocEq hW3
  have s4 := size_allocEq hW4
  have s5 := size_allocEq hW5
  have k1 := (((((Blk.newEq hW1).allocEq hW2).allocEq hW3).allocEq hW4).allocEq hW5).allocEq hW6
  have k2 := ((((Blk.newEq hW2).allocEq hW3).allocEq hW4).allocEq hW5).allocEq hW6
  have k3 := (((Blk.newEq hW3).allocEq hW4).allocEq hW5).allocEq hW6
  have k4 := ((Blk.newEq hW4).allocEq hW5).allocEq hW6
  have k5 := (Blk.newEq hW5).allocEq hW6
  have k6 := Blk.newEq hW6
  have b6 := below_allocEq (below_allocEq (below_allocEq (below_allocEq (below_allocEq (below_allocEq (Below.refl w.heap.size w) hW1 (Nat.le_refl _)) hW2 (by omega)) hW3 (by omega)) hW4 (by omega)) hW5 (by omega)) hW6 (by omega)
  have hT : TxnS W6 (Old W6) (.slice (some ⟨W4.heap.size, 0, none⟩) 2 2) exS :=
    txnS_two29 (t0 := ⟨0, [2], [⟨2, -1⟩]⟩) (t1 := ⟨1, [2], [⟨2, 0⟩]⟩) k5 (IntS.of_blk (l := [2]) k1 k1.lt) (SlR.one k2 rfl rfl k2.lt) (IntS.of_blk (l := [2]) k3 k3.lt) (SlR.one k4 rfl rfl k4.lt) k5.lt
  replace hT := hide hT
  clear k1 k2 k3 k4 k5 s1 s2 s3 s4 s5
  go_enter Tryz.func30, Tryz.ntmps30
  go_upto_region 2 with fail
  clear hW1 hW2 hW3 hW4 hW5 hW6
  have hc := step29_any (some ⟨W4.heap.size, 0, none⟩) 2 exS 0 0 0 none 0 [] W6 hT.out ⟨by decide, by decide⟩ (FctS.nil _ _ _ _) ⟨by simp, by simp⟩ (hTB.below b6)
  rw [hE1.out] at hc
  have c0 := k6.cell 0
  simp only [List.getElem?_toArray, List.getElem?_cons_zero] at c0
  go_wp2_with fail
  refine Calls.mono (by exact hc) ?_
  clear hc c0
  rintro e Z ⟨v, rfl, hv, b4⟩
  obtain ⟨vo, vt, vf, rfl, o1, o2, o3⟩ := hv
  obtain ⟨Ao, no, co, rfl⟩ := OwnI.any o1
  obtain ⟨At, nt, ct, rfl⟩ := NodO.any o2
  obtain ⟨Af, cf, rfl⟩ := OwnR.form o3
  dsimp only [List.length_cons, List.length_nil, Nat.zero_add] at o3 ⊢
  clear o1 o2
  replace o3 := hide o3
  go_upto_region 3 with fail
  obtain ⟨X, hX⟩ : ∃ X, (Z.alloc (.cells #[.int .i64 0, .int .i64 0] 64)).alloc (.cells #[.int .i64 0, .slice Ao no co, .slice At nt ct, .slice Af 1 cf] 35) = X := ⟨_, rfl⟩
  rw [hX]
  have q1 : SayB X Z.heap.size (Z.heap.size + 1) 0 0 ⟨0, [], [], [exF]⟩ (.slice Af 1 cf) := ⟨Blk.two1 hX, ⟨_, _, Blk.two2 hX⟩, (o3.out.below (below_two hX)).base (Nat.zero_le _)⟩
  have hbX := hide (b4.trans ((below_two hX).mono b4.size))
  clear hX b4 o3
  generalize Z.heap.size = z1 at *
  clear Z
  replace k6 := k6.below hbX.out k6.lt
  replace hT := hide (hT.out.below hbX.out)
  replace b6 := b6.trans (hbX.out.mono b6.size)
  clear hbX hE1
  generalize W5.heap.size = gh at *
  generalize W4.heap.size = gt at *
  obtain ⟨vo1, vt1, ko1⟩ := q1.ko
  have c0 := k6.cell 0
  have y3 := ko1.cell 3
  simp only [List.getElem?_toArray, List.getElem?_cons_zero, List.getElem?_cons_succ] at c0 y3
  have hc := step29_any (some ⟨gt, 0, none⟩) 2 exS 0 0 1 Af cf [exF] X hT.out ⟨by decide, by decide⟩ q1.fs.s ⟨by simp, by simp [exF]⟩ (hTB.below b6)
  rw [hE2.out] at hc
  replace hc := hide hc
  replace q1 := hide q1
  clear ko1 hE2
  go_wp2_with fail
  refine Calls.mono (by exact hc.out) ?_
  clear hc c0 y3
  rintro e Z ⟨v, rfl, hv, b4⟩
  obtain ⟨vo, vt, vf, rfl, o1, o2, o3⟩ := hv
  obtain ⟨Ao, no, co, rfl⟩ := OwnI.any o1
  obtain ⟨At, nt, ct, rfl⟩ := NodO.any o2
  obtain ⟨Af, cf, rfl⟩ := OwnR.form o3
  dsimp only [List.length_cons, List.length_nil, Nat.zero_add] at o3 ⊢
  clear o1 o2
  replace o3 := hide o3
  go_upto_region 6 with fail
  obtain ⟨Y, hX⟩ : ∃ Y, (Z.alloc (.cells #[.int .i64 0, .int .i64 1] 64)).alloc (.cells #[.int .i64 1, .slice Ao no co, .slice At nt ct, .slice Af 0 cf] 35) = Y := ⟨_, rfl⟩
  rw [hX]
  have q2 : SayB Y Z.heap.size (Z.heap.size + 1) 0 1 ⟨1, [], [], []⟩ (.slice Af 0 cf) := ⟨Blk.two1 hX, ⟨_, _, Blk.two2 hX⟩, (o3.out.below (below_two hX)).base (Nat.zero_le _)⟩
  have hbX := hide (b4.trans ((below_two hX).mono b4.size))
  clear hX b4 o3
  generalize Z.heap.size = z2 at *
  clear Z
  replace k6 := k6.below hbX.out k6.lt
  replace hT := hide (hT.out.below hbX.out)
  replace q1 := hide (q1.out.below hbX.out)
  replace b6 := b6.trans (hbX.out.mono b6.size)
  clear hbX
  have c0 := k6.cell 0
  simp only [List.getElem?_toArray, List.getElem?_cons_zero, List.getElem?_cons_succ] at c0
  have hc := step29_any (some ⟨gt, 0, none⟩) 2 exS 0 1 0 none 0 [] Y hT.out ⟨by decide, by decide⟩ (FctS.nil _ _ _ _) ⟨by simp, by simp⟩ (hTB.below b6)
  rw [hE3.out] at hc
  replace hc := hide hc
  replace q2 := hide q2
  clear hE3
  go_wp2_with fail
  refine Calls.mono (by exact hc.out) ?_
  clear hc c0
  rintro e Z ⟨v, rfl, hv, b4⟩
  obtain ⟨vo, vt, vf, rfl, o1, o2, o3⟩ := hv
  obtain ⟨Ao, no, co, rfl⟩ := OwnI.any o1
  obtain ⟨At, nt, ct, rfl⟩ := NodO.any o2
  obtain ⟨Af, cf, rfl⟩ := OwnR.form o3
  dsimp only [List.length_cons, List.length_nil, Nat.zero_add] at o3 ⊢
  clear o1 o2
  replace o3 := hide o3
  go_upto_region 7 with fail
  obtain ⟨V, hX⟩ : ∃ V, (Z.alloc (.cells #[.int .i64 1, .int .i64 0] 64)).alloc (.cells #[.int .i64 3, .slice Ao no co, .slice At nt ct, .slice Af 0 cf] 35) = V := ⟨_, rfl⟩
  rw [hX]
  have q3 : SayB V Z.heap.size (Z.heap.size + 1) 1 0 ⟨3, [], [], []⟩ (.slice Af 0 cf) := ⟨Blk.two1 hX, ⟨_, _, Blk.two2 hX⟩, (o3.out.below (below_two hX)).base (Nat.zero_le _)⟩
  have hbX := hide (b4.trans ((below_two hX).mono b4.size))
  clear hX b4 o3
  generalize Z.heap.size = z3 at *
  clear Z
  replace k6 := k6.below hbX.out k6.lt
  replace hT := hide (hT.out.below hbX.out)
  replace q1 := q1.out.below hbX.out
  replace q2 := q2.out.below hbX.out
  replace b6 := b6.trans (hbX.out.mono b6.size)
  clear hbX
  obtain ⟨va1, vb1, ko1⟩ := q1.ko
  obtain ⟨va2, vb2, ko2⟩ := q2.ko
  obtain ⟨va3, vb3, ko3⟩ := q3.ko
  obtain ⟨b, off, Ay, cy, e, -, d⟩ := FctS.at_ (l := [exF]) q1.fs.s (i := 0) (by simp)
  cases e
  have c0 := k6.cell 0
  have u0 := q1.ks.cell 0
  have u1 := q1.ks.cell 1
  have x0 := ko1.cell 0
  have x3 := ko1.cell 3
  have y0 := ko2.cell 0
  have y3 := ko2.cell 3
  have z0 := ko3.cell 0
  have d0 := d.d0
  have d1 := d.d1
  have d2 := d.d2
  have d3 := d.d3
  simp only [exF, List.getElem?_toArray, List.getElem?_cons_zero, List.getElem?_cons_succ, List.getElem_cons_zero, Nat.zero_mul, Nat.add_zero] at c0 u0 u1 x0 x3 y0 y3 z0 d0 d1 d2 d3
  have hr1 := satR29_any (some ⟨gt, 0, none⟩) 2 exS 0 1 V hT.out ⟨by decide, by decide⟩
  have hr2 := hide (fun W (hb : Below V.heap.size V W) => satR29_any (some ⟨gt, 0, none⟩) 2 exS 0 2 W (hT.out.below hb) ⟨by decide, by decide⟩)
  rw [hE4.out] at hr1
  replace hr1 := hide hr1
  clear hE4 d ko1 ko2 ko3 q1 q2 q3 hT hTB
  go_wp2_with fail
  refine Calls.mono (by exact hr1.out) ?_
  rintro e V1 ⟨rfl, hb1⟩
  replace k6 := k6.below hb1 k6.lt
  have hr3 := hr2.out V1 hb1
  rw [hE5.out] at hr3
  replace hr3 := hide hr3
  replace b6 := b6.trans (hb1.mono b6.size)
  clear hr2 hr1 hb1 hE5 c0 u0 u1 x0 x3 y0 y3 z0 d0 d1 d2 d3
  have c0 := k6.cell 0
  simp only [List.getElem?_toArray, List.getElem?_cons_zero] at c0
  go_wp2_with fail
  refine Calls.mono (by exact hr3.out) ?_
  rintro e V2 ⟨rfl, hb2⟩
  go_wp2
  go_ret
  exact ⟨rfl, b6.trans (hb2.mono b6.size)⟩
/-- What comes back, as slices. -/
theorem EndOut.v {w w' : World} {F : Say × List Fct × Nat} {e : Ending} (h : EndOut w F e w') : ∃ Ao no co At nt ct Af nf cf Am cm, e = .returned (.tuple #[.agg #[.int .i64 F.1.said, .slice Ao no co, .slice At nt ct, .slice Af nf cf], .slice Am F.2.1.length cm, .int .i64 (F.2.2 : Int)]) ∧ FctO w' 0 (.slice Am F.2.1.length cm) F.2.1 ∧ Below w.heap.size w w' := by
  obtain ⟨v, vm, rfl, ⟨vo, vt, vf, rfl, o1, o2, o3⟩, o4, hb⟩ := h
  obtain ⟨Ao, no, co, rfl⟩ := OwnI.any o1
  obtain ⟨At, nt, ct, rfl⟩ := NodO.any o2
  obtain ⟨Af, cf, rfl⟩ := OwnR.form o3
  obtain ⟨Am, cm, rfl⟩ := OwnR.form o4
  exact ⟨_, _, _, _, _, _, _, _, _, _, _, rfl, o4.base (Nat.zero_le _), hb⟩
end Go.Proofs.YtjomijnbnbideaaGreatDoor
