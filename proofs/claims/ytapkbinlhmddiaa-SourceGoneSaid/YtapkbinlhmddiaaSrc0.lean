/-
  Transactions and histories as rows in memory; no program in sight.
-/
import Derived.Test.YtapkbinlhmddiaaSrcP
import Derived.Test.YtapkbinlhmddiaaInts
set_option linter.unusedVariables false
set_option linter.unusedSimpArgs false
namespace Go.Inq
open Go Go.RowKit

theorem SlR.form {α : Type} {size : Nat} {R : World → (Nat → Prop) → List Value → α → Prop} {w : World} {K : Nat → Prop} {v : Value} {l : List α} (h : SlR size R w K v l) : ∃ A c, v = .slice A l.length c := by
  obtain ⟨A, c, hv, _⟩ := SlR.len h
  exact ⟨A, c, hv⟩
/-- A transaction's cells. -/
def TxR (w : World) (K : Nat → Prop) (cs : List Value) (t : Tx) : Prop := ∃ vo, cs = [.int .i64 t.sess, .bool t.done, .int .i64 t.first, vo] ∧ EvS w K vo t.ops
theorem TxR.stab : Stab TxR := fun _ _ _ _ _ _ h ha hk => by
  obtain ⟨vo, h1, h2⟩ := h
  exact ⟨vo, h1, EvS.keep h2 ha hk⟩
theorem TxR.one {w : World} {K : Nat → Prop} {cs : List Value} {t : Tx} (h : TxR w K cs t) : ∀ u ∈ cs, u.oneCell' = true := by
  obtain ⟨vo, rfl, h2⟩ := h
  obtain ⟨A, c, rfl⟩ := SlR.form h2
  intro u hu
  simp at hu
  rcases hu with rfl | rfl | rfl | rfl <;> rfl
/-- A slice of transactions. -/
def TxS (w : World) (K : Nat → Prop) (v : Value) (l : List Tx) : Prop := SlR 4 TxR w K v l
section
variable {w w' : World} {K K' : Nat → Prop} {v : Value} {l : List Tx}
theorem TxS.keep (h : TxS w K v l) (ha : Agree K w w') (hk : ∀ b, K b → K' b) : TxS w' K' v l := SlR.keep TxR.stab h ha hk
theorem TxS.below (h : TxS w (Old w) v l) (hb : Below w.heap.size w w') : TxS w' (Old w') v l := SlR.below TxR.stab h hb
theorem TxS.fit (h : TxS w K v l) (hk : ∀ b, K b → K' b) : TxS w K' v l := SlR.fit TxR.stab h hk
theorem TxS.at_ {A : Option Addr} {n c : Nat} (h : TxS w K (.slice A n c) l) {i : Nat} (hi : i < l.length) :
    ∃ b off A' c', A = some ⟨b, off, none⟩ ∧ K b ∧ w.cell? ⟨b, off + i * 4, none⟩ = some (.int .i64 l[i].sess) ∧ w.cell? ⟨b, off + i * 4 + 1, none⟩ = some (.bool l[i].done) ∧
      w.cell? ⟨b, off + i * 4 + 2, none⟩ = some (.int .i64 l[i].first) ∧ w.cell? ⟨b, off + i * 4 + 3, none⟩ = some (.slice A' l[i].ops.length c') ∧ EvS w K (.slice A' l[i].ops.length c') l[i].ops := by
  obtain ⟨b, off, cs, hA, hK, _, ⟨vo, hcs, hev⟩, hc⟩ := SlR.at_ h hi
  obtain ⟨A', c', rfl⟩ := SlR.form hev
  subst hcs
  exact ⟨b, off, A', c', hA, hK, hc 0 _ rfl, hc 1 _ rfl, hc 2 _ rfl, hc 3 _ rfl, hev⟩
end
/-- A history's transaction's cells. -/
def TxnR (w : World) (K : Nat → Prop) (cs : List Value) (t : Txn) : Prop := ∃ vw vr, cs = [.int .i64 t.sess, vw, vr] ∧ IntS w K vw t.writes ∧ ItS w K vr t.reads
theorem TxnR.stab : Stab TxnR := fun _ _ _ _ _ _ h ha hk => by
  obtain ⟨vw, vr, h1, h2, h3⟩ := h
  exact ⟨vw, vr, h1, IntS.keep h2 ha hk, ItS.keep h3 ha hk⟩
theorem TxnR.one {w : World} {K : Nat → Prop} {cs : List Value} {t : Txn} (h : TxnR w K cs t) : ∀ u ∈ cs, u.oneCell' = true := by
  obtain ⟨vw, vr, rfl, h2, h3⟩ := h
  obtain ⟨A, c, rfl⟩ := SlR.form h2
  obtain ⟨A', c', rfl⟩ := SlR.form h3
  intro u hu
  simp at hu
  rcases hu with rfl | rfl | rfl <;> rfl
/-- A slice of a history's transactions. -/
def TxnS (w : World) (K : Nat → Prop) (v : Value) (l : List Txn) : Prop := SlR 3 TxnR w K v l
section
variable {w w' : World} {K K' : Nat → Prop} {v : Value} {l : List Txn}
theorem TxnS.keep (h : TxnS w K v l) (ha : Agree K w w') (hk : ∀ b, K b → K' b) : TxnS w' K' v l := SlR.keep TxnR.stab h ha hk
theorem TxnS.below (h : TxnS w (Old w) v l) (hb : Below w.heap.size w w') : TxnS w' (Old w') v l := SlR.below TxnR.stab h hb
theorem TxnS.fit (h : TxnS w K v l) (hk : ∀ b, K b → K' b) : TxnS w K' v l := SlR.fit TxnR.stab h hk
theorem TxnS.nil (w : World) (K : Nat → Prop) (A : Option Addr) (c : Nat) : TxnS w K (.slice A 0 c) [] := SlR.nil _ _ _ _ _ _
theorem TxnS.at_ {A : Option Addr} {n c : Nat} (h : TxnS w K (.slice A n c) l) {i : Nat} (hi : i < l.length) :
    ∃ b off Aw cw Ar cr, A = some ⟨b, off, none⟩ ∧ K b ∧ w.cell? ⟨b, off + i * 3, none⟩ = some (.int .i64 l[i].sess) ∧ w.cell? ⟨b, off + i * 3 + 1, none⟩ = some (.slice Aw l[i].writes.length cw) ∧
      w.cell? ⟨b, off + i * 3 + 2, none⟩ = some (.slice Ar l[i].reads.length cr) ∧ IntS w K (.slice Aw l[i].writes.length cw) l[i].writes ∧ ItS w K (.slice Ar l[i].reads.length cr) l[i].reads := by
  obtain ⟨b, off, cs, hA, hK, _, ⟨vw, vr, hcs, h1, h2⟩, hc⟩ := SlR.at_ h hi
  obtain ⟨Aw, cw, rfl⟩ := SlR.form h1
  obtain ⟨Ar, cr, rfl⟩ := SlR.form h2
  subst hcs
  exact ⟨b, off, Aw, cw, Ar, cr, hA, hK, hc 0 _ rfl, hc 1 _ rfl, hc 2 _ rfl, h1, h2⟩
end
end Go.Inq
