/-
  Walks: slices.Clip at choices; what is appended to a slice that has no room; no program in sight but Clip's.
-/
import Derived.ArgAppend
import Derived.Test.YtjomijnbnbideaaGreatDoorE07
set_option linter.unusedVariables false
set_option linter.unusedSimpArgs false
namespace Go.Proofs.YtjomijnbnbideaaGreatDoor
open Go.RowKit Go.Inq
set_option maxHeartbeats 2000000
attribute [local go_sem ↓] Go.wp_at_zero Go.wp_at_succ

theorem clipCh_any (A : Option Addr) (n c : Nat) (w : World) (h : n ≤ c) : Calls Tryz.prog 106 #[.slice A n c] w fun e w' => e = .returned (.slice A n n) ∧ w = w' := by
  have h1 : (n : Int) ≤ (c : Int) := by omega
  have h0 : (0 : Int) ≤ (n : Int) := Int.natCast_nonneg _
  go_enter Tryz.func106, Tryz.ntmps106
  go_wp2
  go_ret
  exact ⟨rfl, rfl⟩
theorem slR_cells {α : Type} {size : Nat} {enc : α → List Value} {w : World} {K : Nat → Prop} {ad : Addr} {n c : Nat} {l : List α} (h : SlR size (Flat enc) w K (.slice (some ad) n c) l) (hs : ∀ x, (enc x).length = size) : ∀ (j : Nat) (u : Value), (l.map enc).flatten[j]? = some u → w.cell? (ad.add j) = some u := by
  intro j u hj
  obtain ⟨i, k, cs, rfl, h1, h2⟩ := flatten_at (size := size) (l.map enc) j u (fun i cs e => by
    rw [List.getElem?_map] at e
    obtain ⟨x, -, rfl⟩ := Option.map_eq_some_iff.1 e
    exact hs x) hj
  rw [List.getElem?_map] at h1
  obtain ⟨x, hx, rfl⟩ := Option.map_eq_some_iff.1 h1
  obtain ⟨hi, rfl⟩ := List.getElem?_eq_some_iff.1 hx
  obtain ⟨b, off, cs', e, -, -, hR, hc⟩ := h.at_ hi
  injection e with e
  subst e
  unfold Flat at hR
  subst hR
  have := hc k u h2
  rw [show (⟨b, off, none⟩ : Addr).add (i * size + k) = ⟨b, off + i * size + k, none⟩ by unfold Addr.add; split <;> simp_all <;> omega]
  exact this
/-- append(s, x), where s has no room: a new row. -/
theorem wpList_append_full {P : Program} {w : World} {ops : Array Oper} {rest : List Oper} {o : Oper} {a : Act} {Q : Exit → Act → World → Prop} {α : Type} {enc : α → List Value}
    (hgd : o.guard = none) (s x : Operand) (t : TypeId) (ho : o.op = .call { callee := .builtin .append, args := #[s, x], argTypes := #[t, t] })
    (e : TypeId) (i : TypeInfo) (z : Value) (size bytes : Nat) (ht : P.underlying t = some (.slice e)) (hi : P.info? e = some i) (hz : i.zero = some z)
    (hsize : i.size = size) (hby : i.bytes = bytes) (hzs : z.cells.size = size) (hsz : 0 < size)
    (ao : Option Addr) (K : Nat → Prop) (l : List α) (hs : a.eval s = .slice ao l.length l.length) (hl : SlR size (Flat enc) w K (.slice ao l.length l.length) l) (hen : ∀ x, (enc x).length = size)
    (g : Nat) (cs : Array Value) (x0 : α) (kg : Blk w g e cs) (hcs : cs.toList = enc x0) (hx : a.eval x = .slice (some ⟨g, 0, none⟩) 1 1)
    (h1 : ∀ x, ∀ u ∈ enc x, u.oneCell' = true) (h63 : l.length + 1 ≤ maxLen) (hbytes : (l.length + 1) * bytes ≤ 140737488355328)
    (h : ∀ v' w', w'.ownsRow w.heap.size e size v' (l ++ [x0]).length ((l ++ [x0]).map enc).flatten → Below w.heap.size w w' → wpList P ops Q rest (a.put o.dst v') w') :
    wpList P ops Q (o :: rest) a w := by
  refine wpList_append_grows w hgd s x t ho e i z size bytes ht hi hz hsize hby hzs hsz ao l.length l.length (l.map enc).flatten hs (fun e => ?_) ?_ (fun b e => ?_) ⟨g, 0, none⟩ 1 1 (enc x0) hx (by rw [hen]; omega) (fun j u hj => ?_) (h1 x0) (by omega) h63 hbytes ?_
  · rcases Nat.eq_zero_or_pos l.length with h0 | h0
    · exact ⟨h0, h0⟩
    · obtain ⟨b, off, cs', e', -⟩ := hl.at_ h0
      rw [e] at e'; cases e'
  · clear h hs hl h63 hbytes
    induction l with
    | nil => simp
    | cons y l ih => rw [List.map_cons, List.flatten_cons, List.length_append, hen, ih, List.length_cons, Nat.add_mul]; omega
  · subst e
    exact slR_cells hl hen
  · have := kg.cell j
    rw [show (⟨g, 0, none⟩ : Addr).add j = ⟨g, j, none⟩ by unfold Addr.add; split <;> simp_all, this]
    rw [← hcs] at hj
    simpa using hj
  · intro v' w' g1 g2
    refine h v' w' ?_ ((Below.refl _ _).grown g2 (Nat.le_refl _) (by simp))
    rw [List.map_append, List.flatten_append, List.length_append]
    simpa using g1
end Go.Proofs.YtjomijnbnbideaaGreatDoor
