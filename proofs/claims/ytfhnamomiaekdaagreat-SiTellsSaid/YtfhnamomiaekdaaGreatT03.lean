/-
  A region that draws its order: operations that only look are taken first, in a planned order, and what is left is a forced row: one walk serves every order.
  Conditions: the plan is checked by the kernel (planB).
-/
import Derived.OrdersHeld
import Derived.StillTail
import Derived.Conc.Events
import Derived.Laws.AppendOwn
import Derived.Laws.Panics
import Derived.KernelRfl
import Derived.Lib.SlicesCompact
import Derived.Laws.BitsAllLaws
import Derived.Lib.TrailingZeros
import Derived.Test.YtfhnamomiaekdaaGreatProg
import Derived.Test.YtfhnamomiaekdaaGreatT01
set_option linter.unusedVariables false
set_option linter.unusedSimpArgs false
namespace Go.Inq
open Go

/-- A computation that, where it yields, leaves the world as it is and yields the same in every world. -/
def Clear {α : Type} (e : Sem α) : Prop := ∀ (P : Program) w v w', e.run P w = .ok v w' → w' = w ∧ ∀ u, e.run P u = .ok v u

section
variable {α β : Type}
theorem Clear.pure (a : α) : Clear (Pure.pure a : Sem α) := fun P w v w' h => by
  simp at h
  obtain ⟨rfl, rfl⟩ := h
  exact ⟨rfl, fun u => by simp⟩
theorem Clear.halt (x : Halt) : Clear (Sem.halt x : Sem α) := fun P w v w' h => by simp [Sem.run] at h
theorem Clear.never {e : Sem α} (h : ∀ (P : Program) w v w', e.run P w ≠ .ok v w') : Clear e := fun P w v w' h' => absurd h' (h P w v w')
theorem Clear.bind {e : Sem α} {f : α → Sem β} (he : Clear e) (hf : ∀ a, Clear (f a)) : Clear (e >>= f) := fun P w v w' h => by
  rw [Sem.run_bind] at h
  cases hr : e.run P w with
  | halt x w1 => rw [hr] at h; simp [Result.andThen] at h
  | ok a w1 =>
    rw [hr] at h
    obtain ⟨rfl, h1⟩ := he P w a w1 hr
    simp only [Result.andThen] at h
    obtain ⟨rfl, h2⟩ := hf a P _ v w' h
    exact ⟨rfl, fun u => by rw [Sem.run_bind, h1 u]; simp only [Result.andThen]; exact h2 u⟩
theorem Clear.program : Clear Go.program := fun P w v w' h => by
  simp [Go.program, Sem.run] at h
  obtain ⟨rfl, rfl⟩ := h
  exact ⟨rfl, fun u => by simp [Go.program, Sem.run]⟩
theorem Clear.bounds (k : IntKind) (x y : Int) (c : BoundsCode) : Clear (boundsPanic k x y c : Sem α) := Clear.never fun P w v w' h => by
  obtain ⟨s, w2, h2⟩ := run_boundsPanic (α := α) (P := P) (w := w) k x y c
  rw [h2] at h
  cases h
theorem Clear.underlying (t : TypeId) : Clear (Go.underlying t) := Clear.bind Clear.program fun p => by
  split
  · exact Clear.pure _
  · exact Clear.halt _
theorem Clear.typeInfo (t : TypeId) : Clear (Go.typeInfo t) := Clear.bind Clear.program fun p => by
  split
  · exact Clear.pure _
  · exact Clear.halt _
theorem Clear.sizeOf (t : TypeId) : Clear (Go.sizeOf t) := Clear.bind (Clear.typeInfo t) fun _ => Clear.pure _
theorem Clear.zeroValue (t : TypeId) : Clear (Go.zeroValue t) := Clear.bind (Clear.typeInfo t) fun _ => by
  split
  · exact Clear.pure _
  · exact Clear.halt _
theorem Clear.nilDeref {α : Type} : Clear (runtimePanic .nilDeref : Sem α) := by
  unfold runtimePanic
  exact Clear.bind Clear.program fun p => Clear.halt _
theorem Clear.sureAddr (v : Value) : Clear (Instr.sureAddr v) := by
  unfold Instr.sureAddr
  split
  · exact Clear.pure _
  · exact Clear.halt _
theorem Clear.asIntOf (v : Value) : Clear (asIntOf v) := by
  unfold Go.asIntOf
  split
  · exact Clear.pure _
  · exact Clear.halt _
  · exact Clear.halt _
theorem Clear.asBool (v : Value) : Clear (asBool v) := by
  unfold Go.asBool
  split
  · exact Clear.pure _
  · exact Clear.halt _
theorem Clear.mapM {γ δ : Type} (f : γ → Sem δ) (hf : ∀ a, Clear (f a)) : ∀ (l : List γ), Clear (l.mapM f)
  | [] => by rw [List.mapM_nil]; exact Clear.pure _
  | a :: l => by
    rw [List.mapM_cons]
    exact Clear.bind (hf a) fun _ => Clear.bind (Clear.mapM f hf l) fun _ => Clear.pure _
theorem Clear.arrayMapM {γ δ : Type} (f : γ → Sem δ) (hf : ∀ a, Clear (f a)) (xs : Array γ) : Clear (xs.mapM f) := by
  obtain ⟨l⟩ := xs
  rw [List.mapM_toArray]
  have h := Clear.mapM f hf l
  intro P w v w' hr
  rw [Sem.run_map] at hr
  cases hl : (l.mapM f).run P w with
  | halt x w1 => rw [hl] at hr; simp [Result.andThen] at hr
  | ok a w1 =>
    rw [hl] at hr
    simp only [Result.andThen] at hr
    obtain ⟨rfl, h1⟩ := h P w a w1 hl
    injection hr with e1 e2
    exact ⟨e2.symm, fun u => by rw [Sem.run_map, h1 u]; simp only [Result.andThen]; rw [e1]⟩
theorem Clear.indexAt (t : TypeId) (x i : Value) : Clear (Instr.indexAt t x i) := by
  unfold Instr.indexAt
  refine Clear.bind (Clear.asIntOf i) fun ki => ?_
  obtain ⟨k, i⟩ := ki
  refine Clear.bind (Clear.underlying t) fun d => ?_
  extract_lets jp
  have hj : ∀ q, Clear (jp q) := by
    rintro ⟨base, len, elem⟩
    refine Clear.bind (Clear.underlying t) fun d2 => ?_
    extract_lets tiny
    split
    · split
      · exact Clear.bind (Clear.sizeOf _) fun _ => Clear.pure _
      · split
        · exact Clear.halt _
        · exact Clear.bounds _ _ _ _
    · exact Clear.bounds _ _ _ _
  split
  · exact Clear.bind (Clear.sureAddr _) fun _ => Clear.bind (Clear.pure _) hj
  · exact Clear.bind (Clear.pure _) hj
  · exact Clear.bind (Clear.halt _) hj
theorem Clear.build (t : TypeId) (parts : Array (Nat × Value)) : Clear (Instr.build t parts) := by
  unfold Instr.build
  refine Clear.bind (Clear.zeroValue t) fun z => ?_
  refine Clear.bind (Clear.underlying t) fun d => ?_
  split
  · refine Clear.bind (Clear.arrayMapM _ (fun f => Clear.bind (Clear.sizeOf _) fun _ => Clear.pure _) _) fun ps => ?_
    split
    · exact Clear.pure _
    · exact Clear.halt _
  · refine Clear.bind (Clear.sizeOf _) fun s => ?_
    split
    · exact Clear.pure _
    · exact Clear.halt _
  · exact Clear.halt _
theorem Clear.extract (v : Value) (i : Nat) : Clear (Instr.extract v i) := by
  unfold Instr.extract
  split
  · split
    · exact Clear.pure _
    · exact Clear.halt _
  · exact Clear.halt _
end

theorem Clear.isAgg (t : TypeId) : Clear (Go.isAgg t) := Clear.bind (Clear.underlying t) fun _ => by
  split
  · exact Clear.pure _
  · exact Clear.pure _
  · exact Clear.pure _
theorem Clear.part (t : TypeId) (cs : Array Value) (i : Nat) : Clear (Go.part t cs i) := by
  unfold Go.part
  refine Clear.bind (Clear.isAgg _) fun b => ?_
  split
  · exact Clear.bind (Clear.sizeOf _) fun _ => Clear.pure _
  · split
    · exact Clear.pure _
    · exact Clear.halt _
theorem Clear.followBlind : ∀ (l : List FieldStep) (t : TypeId) (x : Option Value), Clear (Go.followBlind l t x)
  | [], t, x => Clear.pure _
  | s :: rest, t, x => by
    unfold Go.followBlind
    refine Clear.bind (Clear.underlying _) fun d => ?_
    split
    · split
      · split
        · exact Clear.pure _
        · exact Clear.followBlind rest _ _
        · exact Clear.halt _
        · exact Clear.pure _
        · exact Clear.bind (Clear.part _ _ _) fun _ => Clear.followBlind rest _ _
        · exact Clear.halt _
        · exact Clear.followBlind rest _ _
      · exact Clear.halt _
    · exact Clear.halt _
theorem Clear.nilAhead : ∀ (n : Nat) (t : TypeId) (v : Value) (name : String), Clear (Go.nilAhead n t v name)
  | 0, _, _, _ => Clear.pure _
  | n + 1, t, v, name => by
    unfold Go.nilAhead
    refine Clear.bind (Clear.typeInfo _) fun i => ?_
    split
    · refine Clear.bind (Clear.followBlind _ _ _) fun r => ?_
      split
      · exact Clear.pure _
      · split
        · exact Clear.nilAhead n _ _ _
        · exact Clear.pure _
        · exact Clear.halt _
        · exact Clear.pure _
        · exact Clear.pure _
        · refine Clear.bind (Clear.underlying _) fun d => ?_
          split <;> exact Clear.pure _
    · exact Clear.halt _

/-- The kinds of operations that yield the same in every world. -/
def worldless (P : Program) : Op → Bool
  | .move _ | .assign _ | .pick .. | .build .. | .indexAddr .. | .extract .. | .makeFunc .. | .nilCheck _ => true
  | .fieldAddr s _ f => match P.underlying s with
    | some (.struct fs) => match fs[f]? with
      | some g => match P.info? g.type with
        | some i => i.size != 0
        | none => false
      | none => false
    | _ => false
  | _ => false

/-- Where such an operation yields, it yields the same in every world. -/
theorem worldless_spec {P : Program} {ρ : Operand → Value} {o : Oper} (h : worldless P o.op = true) {w w' : World} {n : Next} (hr : (execOp ρ o).run P w = .ok n w') :
    ∀ u, (execOp ρ o).run P u = .ok n u := by
  have lift : ∀ (s : Sem Value), Clear s → (do pure (.value (← s)) : Sem Next).run P w = .ok n w' → ∀ u, (do pure (.value (← s)) : Sem Next).run P u = .ok n u :=
    fun s hs h u => (Clear.bind hs (fun _ => Clear.pure _) P w n w' h).2 u
  cases ho : o.op <;> rw [ho] at h <;> simp [worldless] at h
  case move x =>
    have e : execOp ρ o = Pure.pure (.value (ρ x)) := by unfold execOp; rw [ho]
    rw [e] at hr ⊢
    exact (Clear.pure _ P w n w' hr).2
  case assign x =>
    have e : execOp ρ o = Pure.pure (.value (ρ x)) := by unfold execOp; rw [ho]
    rw [e] at hr ⊢
    exact (Clear.pure _ P w n w' hr).2
  case nilCheck x =>
    have c : Clear (execOp ρ o) := by
      unfold execOp
      rw [ho]
      dsimp only
      split
      · exact Clear.nilDeref
      · exact Clear.nilDeref
      · exact Clear.nilDeref
      · split
        · exact Clear.nilDeref
        · refine Clear.bind Clear.program fun p => ?_
          refine Clear.bind (Clear.nilAhead _ _ _ _) fun r => ?_
          split
          · exact Clear.bind (Clear.halt _) fun _ => Clear.pure _
          · exact Clear.pure _
        · exact Clear.pure _
      · exact Clear.pure _
    exact (c P w n w' hr).2
  case pick c a b =>
    have e : execOp ρ o = (do Pure.pure (.value (if ← asBool (ρ c) then ρ a else ρ b))) := by unfold execOp; rw [ho]
    rw [e] at hr ⊢
    exact (Clear.bind (Clear.asBool _) (fun _ => Clear.pure _) P w n w' hr).2
  case build t ps =>
    have e : execOp ρ o = (do Pure.pure (.value (← Instr.build t (ps.map fun (i, x) => (i, ρ x))))) := by unfold execOp; rw [ho]
    rw [e] at hr ⊢
    exact lift _ (Clear.build _ _) hr
  case makeFunc fn a b =>
    have e : execOp ρ o = (do Pure.pure (.value (← Instr.makeFunc fn (a.map ρ) (b.map ρ)))) := by unfold execOp; rw [ho]
    rw [e] at hr ⊢
    exact lift _ (Clear.pure _) hr
  case indexAddr t x i =>
    have e : execOp ρ o = (do Pure.pure (.value (← Instr.indexAt t (ρ x) (ρ i)))) := by unfold execOp; rw [ho]
    rw [e] at hr ⊢
    exact lift _ (Clear.indexAt _ _ _) hr
  case extract t i =>
    have e : execOp ρ o = (do Pure.pure (.value (← Instr.extract (ρ t) i))) := by unfold execOp; rw [ho]
    rw [e] at hr ⊢
    exact lift _ (Clear.extract _ _) hr
  case fieldAddr s x f =>
    have e : execOp ρ o = (do Pure.pure (.value (← Instr.fieldAt s (ρ x) f))) := by unfold execOp; rw [ho]
    rw [e] at hr ⊢
    split at h
    case h_2 => cases h
    case h_1 fs hu =>
      split at h
      case h_2 => cases h
      case h_1 g hg =>
        split at h
        case h_2 => cases h
        case h_1 i hi =>
          have hsz : i.size ≠ 0 := by simpa using h
          have key : ∀ u, (Instr.fieldAt s (ρ x) f).run P u = (Instr.sureAddr (ρ x) >>= fun a => Pure.pure (Value.pointer (some (a.add g.offset)))).run P u := fun u => by
            unfold Instr.fieldAt
            rw [Sem.run_bind]
            have h1 : (Go.underlying s).run P u = .ok (.struct fs) u := by simp [Go.underlying, Go.program, Sem.run, hu]
            rw [h1]
            simp only [Result.andThen, hg]
            rw [Sem.run_bind, Sem.run_bind]
            congr 1
            funext a u'
            have h2 : (Go.fieldPlace a g).run P u' = .ok (a.add g.offset) u' := by
              unfold Go.fieldPlace
              simp [Go.sizeOf, Go.typeInfo, Go.program, Sem.run, hi, hsz]
            rw [Sem.run_bind, h2]
            rfl
          have c : Clear (Instr.sureAddr (ρ x) >>= fun a => (Pure.pure (Value.pointer (some (a.add g.offset))) : Sem Value)) := Clear.bind (Clear.sureAddr _) fun _ => Clear.pure _
          have both : ∀ u, (do Pure.pure (.value (← Instr.fieldAt s (ρ x) f)) : Sem Next).run P u = (do Pure.pure (.value (← (Instr.sureAddr (ρ x) >>= fun a => (Pure.pure (Value.pointer (some (a.add g.offset))) : Sem Value)))) : Sem Next).run P u := fun u => by
            rw [Sem.run_bind, Sem.run_bind, key u]
          intro u
          exact (both u).trans (lift _ c ((both w).symm.trans hr) u)

/-- w' is w with more blocks. -/
def Ext (w w' : World) : Prop := w.heap.size ≤ w'.heap.size ∧ ∀ b, b < w.heap.size → w'.heap[b]? = w.heap[b]?
theorem Ext.refl (w : World) : Ext w w := ⟨Nat.le_refl _, fun _ _ => rfl⟩
theorem Ext.trans {a b c : World} (h : Ext a b) (h' : Ext b c) : Ext a c := ⟨Nat.le_trans h.1 h'.1, fun k hk => (h'.2 k (Nat.lt_of_lt_of_le hk h.1)).trans (h.2 k hk)⟩

/-- Where it yields, it leaves the world as it is, and yields the same in every world with more blocks. -/
def Stb {α : Type} (e : Sem α) : Prop := ∀ (P : Program) w v w', e.run P w = .ok v w' → w' = w ∧ ∀ u, Ext w u → e.run P u = .ok v u
theorem Clear.stb {α : Type} {e : Sem α} (h : Clear e) : Stb e := fun P w v w' hr => ⟨(h P w v w' hr).1, fun u _ => (h P w v w' hr).2 u⟩
theorem Stb.bind {α β : Type} {e : Sem α} {f : α → Sem β} (he : Stb e) (hf : ∀ a, Stb (f a)) : Stb (e >>= f) := fun P w v w' h => by
  rw [Sem.run_bind] at h
  cases hr : e.run P w with
  | halt x w1 => rw [hr] at h; simp [Result.andThen] at h
  | ok a w1 =>
    rw [hr] at h
    obtain ⟨rfl, h1⟩ := he P w a w1 hr
    simp only [Result.andThen] at h
    obtain ⟨rfl, h2⟩ := hf a P _ v w' h
    exact ⟨rfl, fun u hu => by rw [Sem.run_bind, h1 u hu]; simp only [Result.andThen]; exact h2 u hu⟩

theorem seen_some {P : Program} {w : World} {at_ : Addr} {t : TypeId} {k : Addr} {b : Bool} {r} (h : w.seen P at_ t k b = .ok r) : ∃ c e f, w.heap[at_.block]? = some (.cells c e f) := by
  cases hh : w.heap[at_.block]? with
  | none =>
    exfalso
    unfold World.seen at h
    rw [hh] at h
    simp only [bind, Except.bind] at h
    repeat' split at h
    all_goals first | cases h | (rename_i hx; cases hx)
  | some o =>
    cases o with
    | cells c e f => exact ⟨c, e, f, rfl⟩
    | _ =>
      exfalso
      unfold World.seen at h
      rw [hh] at h
      simp only [bind, Except.bind] at h
      repeat' split at h
      all_goals first | cases h | (rename_i hx; cases hx)
theorem seen_congr {P : Program} {w u : World} {at_ : Addr} {t : TypeId} {k : Addr} {b : Bool} (h : u.heap[at_.block]? = w.heap[at_.block]?) : u.seen P at_ t k b = w.seen P at_ t k b := by
  unfold World.seen
  rw [h]
theorem lt_of_some {w : World} {b : Nat} {o : Obj} (h : w.heap[b]? = some o) : b < w.heap.size := (Array.getElem?_eq_some_iff.1 h).1

theorem Stb.load (a : Addr) : Stb (Go.load a) := fun P w v w' h => by
  unfold Go.load at h ⊢
  simp only [Sem.run] at h ⊢
  cases hc : w.cell? a with
  | some x =>
    rw [hc] at h
    simp only [Result.ok.injEq] at h
    obtain ⟨rfl, rfl⟩ := h
    refine ⟨rfl, fun u hu => ?_⟩
    have hb : a.block < w.heap.size := World.block_lt_of_cell? w a hc
    rw [World.cell?_of_block (w := w) (hu.2 _ hb), hc]
  | none =>
    rw [hc] at h
    dsimp only at h
    unfold World.farLoad at h ⊢
    cases hh : w.heap[a.block]? with
    | none => rw [hh] at h; simp at h
    | some o =>
      have hb := lt_of_some hh
      have hcu : ∀ u, Ext w u → u.cell? a = none := fun u hu => by rw [World.cell?_of_block (w := w) (hu.2 _ hb), hc]
      rw [hh] at h
      cases o with
      | view at_ t =>
        dsimp only at h
        cases hv : w.viewLoad P at_ t a (Mode.plain == Mode.atomic) with
        | error e => rw [hv] at h; simp at h
        | ok r =>
          rw [hv] at h
          dsimp only at h
          simp only [Result.ok.injEq] at h
          obtain ⟨rfl, rfl⟩ := h
          refine ⟨rfl, fun u hu => ?_⟩
          rw [hcu u hu]
          dsimp only
          rw [hu.2 _ hb, hh]
          dsimp only
          have hs : ∃ r, w.seen P at_ t a (Mode.plain == Mode.atomic) = .ok r := by
            cases hsn : w.seen P at_ t a (Mode.plain == Mode.atomic) with
            | error e => unfold World.viewLoad at hv; rw [hsn] at hv; cases hv
            | ok r => exact ⟨r, rfl⟩
          obtain ⟨r2, hs⟩ := hs
          obtain ⟨c, e, f, hcc⟩ := seen_some hs
          have hvu : u.viewLoad P at_ t a (Mode.plain == Mode.atomic) = w.viewLoad P at_ t a (Mode.plain == Mode.atomic) := by
            unfold World.viewLoad
            rw [seen_congr (hu.2 _ (lt_of_some hcc))]
          rw [hvu, hv]
      | _ => simp at h

theorem Stb.loadCellsFrom (a : Addr) : ∀ (n i : Nat) (acc : Array Value), Stb (Go.loadCellsFrom a i n acc)
  | 0, i, acc => by unfold Go.loadCellsFrom; exact (Clear.pure _).stb
  | n + 1, i, acc => by unfold Go.loadCellsFrom; exact Stb.bind (Stb.load _) fun v => Stb.loadCellsFrom a n (i + 1) _
theorem Stb.loadAt (t : TypeId) (v : Value) : Stb (Instr.loadAt t v) := by
  unfold Instr.loadAt
  refine Stb.bind (Clear.sureAddr v).stb fun a => ?_
  unfold Go.loadVar
  refine Stb.bind (Clear.isAgg t).stb fun b => ?_
  split
  · exact Stb.bind (Clear.sizeOf t).stb fun n => Stb.bind (by unfold Go.loadCells; exact Stb.loadCellsFrom a n 0 _) fun _ => (Clear.pure _).stb
  · exact Stb.load a

/-- Where it yields, it has only made blocks. -/
def Grow {α : Type} (e : Sem α) : Prop := ∀ (P : Program) w v w', e.run P w = .ok v w' → Ext w w'
theorem Clear.grow {α : Type} {e : Sem α} (h : Clear e) : Grow e := fun P w v w' hr => by rw [(h P w v w' hr).1]; exact Ext.refl _
theorem Grow.bind {α β : Type} {e : Sem α} {f : α → Sem β} (he : Grow e) (hf : ∀ a, Grow (f a)) : Grow (e >>= f) := fun P w v w' h => by
  rw [Sem.run_bind] at h
  cases hr : e.run P w with
  | halt x w1 => rw [hr] at h; simp [Result.andThen] at h
  | ok a w1 =>
    rw [hr] at h
    simp only [Result.andThen] at h
    exact (he P w a w1 hr).trans (hf a P _ v w' h)
theorem Grow.newObj (o : Obj) : Grow (Go.newObj o) := fun P w v w' h => by
  unfold Go.newObj at h
  simp only [Sem.run, Result.ok.injEq] at h
  obtain ⟨_, rfl⟩ := h
  refine ⟨by simp, fun b hb => ?_⟩
  show (w.heap.push o)[b]? = _
  rw [Array.getElem?_push, if_neg (by omega)]
theorem Grow.newVar (t : TypeId) (v : Value) : Grow (Go.newVar t v) := by
  unfold Go.newVar Go.newRow
  exact Grow.bind (Grow.newObj _) fun _ => (Clear.pure _).grow

/-- The kinds of operations that make a block and do nothing else. -/
def allocOp : Op → Bool
  | .alloc _ | .box .. | .buildSlice .. => true
  | _ => false
theorem allocOp_spec {P : Program} {ρ : Operand → Value} {o : Oper} (h : allocOp o.op = true) {w w' : World} {n : Next} (hr : (execOp ρ o).run P w = .ok n w') : Ext w w' ∧ ∃ v, n = .value v := by
  have lift : ∀ (s : Sem Value), Grow s → (do Pure.pure (.value (← s)) : Sem Next).run P w = .ok n w' → Ext w w' ∧ ∃ v, n = .value v := fun s hs hr => by
    refine ⟨Grow.bind hs (fun _ => (Clear.pure _).grow) P w n w' hr, ?_⟩
    rw [Sem.run_bind] at hr
    cases h1 : s.run P w with
    | halt x w1 => rw [h1] at hr; simp [Result.andThen] at hr
    | ok a w1 => rw [h1] at hr; simp [Result.andThen] at hr; exact ⟨a, hr.1.symm⟩
  cases ho : o.op <;> rw [ho] at h <;> simp [allocOp] at h
  case alloc t =>
    have e : execOp ρ o = (do Pure.pure (.value (← Instr.alloc t true (.tuple #[])))) := by unfold execOp; rw [ho]
    rw [e] at hr
    refine lift _ ?_ hr
    unfold Instr.alloc
    refine Grow.bind (Clear.zeroValue t).grow fun z => ?_
    exact Grow.bind (Grow.newVar _ _) fun _ => (Clear.pure _).grow
  case box t x =>
    have e : execOp ρ o = (do Pure.pure (.value (← Instr.box t (ρ x)))) := by unfold execOp; rw [ho]
    rw [e] at hr
    refine lift _ ?_ hr
    unfold Instr.box
    exact Grow.bind (Grow.newVar _ _) fun _ => (Clear.pure _).grow
  case buildSlice t k ps =>
    have e : execOp ρ o = (do Pure.pure (.value (← Instr.buildSlice t k (ps.map fun (i, x) => (i, ρ x))))) := by unfold execOp; rw [ho]
    rw [e] at hr
    refine lift _ ?_ hr
    unfold Instr.buildSlice
    refine Grow.bind (Clear.underlying t).grow fun d => ?_
    split
    · refine Grow.bind (Clear.sizeOf _).grow fun sz => ?_
      extract_lets jp jp2
      have hj : ∀ z, Grow (jp z) := by
        intro z
        dsimp only [jp]
        split
        · exact Grow.bind (by unfold Go.newRow; exact Grow.bind (Grow.newObj _) fun _ => (Clear.pure _).grow) fun _ => (Clear.pure _).grow
        · exact (Clear.halt _).grow
      have hj2 : ∀ u, Grow (jp2 u) := by
        intro u
        dsimp only [jp2]
        split
        · exact Grow.bind (Clear.pure _).grow hj
        · exact Grow.bind (Clear.zeroValue _).grow fun _ => Grow.bind (Clear.pure _).grow hj
      split
      · exact Grow.bind (Clear.halt _).grow hj2
      · exact hj2 ()
    · exact (Clear.halt _).grow

/-- The kinds of operations that, where they do not halt, hand on a value. -/
def valueOp : Op → Bool
  | .move _ | .assign _ | .pick .. | .build .. | .load .. | .binOp .. | .unOp .. | .convert .. | .slice .. | .fieldAddr .. | .field .. | .indexAddr .. | .index .. | .extract .. | .makeFunc .. => true
  | .call { callee := .builtin b, .. } => match b with | .len | .cap | .min | .max => true | _ => false
  | .nilCheck _ => true
  | _ => false

/-- Where it yields, it yields a value. -/
def Val (s : Sem Next) : Prop := ∀ (P : Program) w n w', s.run P w = .ok n w' → ∃ v, n = .value v
theorem Val.pure (u : Value) : Val (Pure.pure (.value u)) := fun P w n w' h => by
  simp at h
  exact ⟨u, h.1.symm⟩
theorem Val.halt (x : Halt) : Val (Sem.halt x) := fun P w n w' h => by simp [Sem.run] at h
theorem Val.bind {α : Type} {e : Sem α} {f : α → Sem Next} (hf : ∀ a, Val (f a)) : Val (e >>= f) := fun P w n w' h => by
  rw [Sem.run_bind] at h
  cases hr : e.run P w with
  | halt x w1 => rw [hr] at h; simp [Result.andThen] at h
  | ok a w1 =>
    rw [hr] at h
    exact hf a P _ _ _ h
theorem Val.panic (x : RuntimeError) : Val (runtimePanic x) := by
  unfold runtimePanic
  refine Val.bind fun p => ?_
  cases x <;> first | exact Val.halt _ | exact Val.bind fun _ => Val.bind fun _ => Val.halt _

theorem valueOp_spec {P : Program} {ρ : Operand → Value} {o : Oper} (h : valueOp o.op = true) {w w' : World} {n : Next} (hr : (execOp ρ o).run P w = .ok n w') : ∃ v, n = .value v := by
  suffices hv : Val (execOp ρ o) from hv P w n w' hr
  clear hr
  unfold execOp
  cases ho : o.op <;> rw [ho] at h <;> simp [valueOp] at h
  case call c =>
    obtain ⟨callee, args, ats⟩ := c
    cases callee with
    | value f => simp at h
    | invoke r m => simp at h
    | builtin b =>
      intro P w n w' hr
      rw [Sem.run_bind] at hr
      simp only [resolve, Sem.run_pure, Result.andThen_ok, invoke, builtin] at hr
      cases b <;> simp at h <;> exact (Val.bind fun _ => Val.pure _) P _ _ _ hr
  case nilCheck x =>
    dsimp only
    split
    · exact Val.panic _
    · exact Val.panic _
    · exact Val.panic _
    · split
      · exact Val.panic _
      · refine Val.bind fun p => Val.bind fun b => ?_
        extract_lets
        split
        · exact Val.bind fun _ => Val.pure _
        · exact Val.pure _
      · exact Val.pure _
    · exact Val.pure _
  all_goals first
    | exact Val.pure _
    | exact Val.bind fun _ => Val.pure _

section
variable {P : Program} {ops : Array Oper} {Q : Exit → Act → World → Prop} {md : Region.Mode}

/-- Does operation j wait for operation i, straight or through others? -/
def waitsT (md : Region.Mode) (ops : Array Oper) : Nat → Nat → Nat → Bool
  | 0, _, _ => false
  | f + 1, j, i => match ops[j]? with
    | some oj => oj.after.any fun e => Region.binds md e && (e.on == i || waitsT md ops f e.on i)
    | none => false

/-- Whatever is listed, all that it waits for is listed. -/
def Closed (md : Region.Mode) (ops : Array Oper) (listed : Array Bool) : Prop :=
  ∀ (j : Nat) oj, ops[j]? = some oj → listed.getD j false = true → ∀ e ∈ oj.after, Region.binds md e = true → listed.getD e.on false = true

theorem Closed.start (md : Region.Mode) (ops : Array Oper) (n : Nat) : Closed md ops (Array.replicate n false) := fun j oj _ h => by
  rw [getD_replicate_false] at h
  cases h
theorem Closed.set_ {listed : Array Bool} {i : Nat} (h : Closed md ops listed) (hi : i ∈ Region.ready md ops listed) : Closed md ops (listed.setIfInBounds i true) := by
  obtain ⟨_, oi, hoi, hall⟩ := mem_ready.1 hi
  intro j oj hj hl e he hb
  by_cases hij : i = j
  · subst hij
    have : oj = oi := Option.some.inj (hj.symm.trans hoi)
    subst this
    exact getD_set_true (hall e he hb)
  · rw [getD_set_ne false hij] at hl
    exact getD_set_true (h j oj hj hl e he hb)
theorem Closed.waits {listed : Array Bool} (h : Closed md ops listed) : ∀ (f j i : Nat), waitsT md ops f j i = true → listed.getD j false = true → listed.getD i false = true
  | 0, _, _, hw, _ => by cases hw
  | f + 1, j, i, hw, hl => by
    unfold waitsT at hw
    split at hw
    · rename_i oj hoj
      obtain ⟨e, he, hb⟩ := Array.any_eq_true'.1 hw
      simp only [Bool.and_eq_true, Bool.or_eq_true, beq_iff_eq] at hb
      have h1 := h j oj hoj hl e he hb.1
      rcases hb.2 with h2 | h2
      · rw [← h2]; exact h1
      · exact Closed.waits h f _ _ h2 h1
    · cases hw
theorem Closed.ready {listed : Array Bool} (h : Closed md ops listed) {f j i : Nat} (hw : waitsT md ops f j i = true) (hj : j ∈ Region.ready md ops listed) : listed.getD i false = true := by
  obtain ⟨_, oj, hoj, hall⟩ := mem_ready.1 hj
  cases f with
  | zero => cases hw
  | succ f =>
    unfold waitsT at hw
    rw [hoj] at hw
    obtain ⟨e, he, hb⟩ := Array.any_eq_true'.1 hw
    simp only [Bool.and_eq_true, Bool.or_eq_true, beq_iff_eq] at hb
    have h1 := hall e he hb.1
    rcases hb.2 with h2 | h2
    · rw [← h2]; exact h1
    · exact h.waits f _ _ h2 h1

/-- Whatever order is picked from here on; an operation of class 0 leaves the world as it is, one of class 1 only makes blocks. -/
def wpAnyP (P : Program) (md : Region.Mode) (ops : Array Oper) (Q : Exit → Act → World → Prop) (cls : Nat → Nat) : Nat → Array Bool → Act → World → Prop
  | 0, listed, a, w => Region.ready md ops listed = [] ∧ Q .normal a w
  | fuel + 1, listed, a, w =>
    (Region.ready md ops listed = [] → Q .normal a w) ∧
    ∀ i ∈ Region.ready md ops listed, wpOp P ops Q i (fun a' w' => ((cls i = 0 → w' = w) ∧ (cls i = 1 → Ext w w')) ∧ wpAnyP P md ops Q cls fuel (listed.setIfInBounds i true) a' w') a w

theorem wpAny_of_P {cls : Nat → Nat} : ∀ (fuel : Nat) (listed : Array Bool) (a : Act) (w : World), wpAnyP P md ops Q cls fuel listed a w → wpAny P md ops Q fuel listed a w
  | 0, _, _, _, h => h
  | fuel + 1, _, _, _, h => ⟨h.1, fun i hi => wpOp_mono (fun a' w' h' => wpAny_of_P fuel _ a' w' h'.2) (h.2 i hi)⟩

/-- An operation that yields in every world that meets S may be taken first, if what comes up ahead of it keeps S. -/
theorem wpAnyP_first {cls : Nat → Nat} {S : World → Prop} {i : Nat} {oi : Oper} {v : Value} (hi : ops[i]? = some oi) (hsel : ∀ (j : Nat) (o : Oper) cs b, ops[j]? = some o → o.op ≠ .select cs b)
    (hQ : ∀ c a w, Q (.panic c) (a.put oi.dst v) w → Q (.panic c) a w)
    (hkeep : ∀ (listed : Array Bool) (j : Nat), Closed md ops listed → j ∈ Region.ready md ops listed → listed.getD i false = false → ∀ w w', S w → (cls j = 0 → w' = w) ∧ (cls j = 1 → Ext w w') → S w') :
    ∀ (fuel : Nat) (listed : Array Bool) (a : Act) (w : World), Closed md ops listed →
      (∀ j oj, ops[j]? = some oj → j ≠ i → listed.getD j true = false → (∀ e ∈ oj.after, Region.binds md e = true → e.on ≠ i) → oi.apart ops oj = true) →
      i ∈ Region.ready md ops listed → YieldsIf P ops S oi v a → S w →
      wpAnyP P md ops Q cls fuel (listed.setIfInBounds i true) (a.put oi.dst v) w → wpAnyP P md ops Q cls (fuel + 1) listed a w := by
  intro fuel
  induction fuel with
  | zero =>
    intro listed a w _ _ hr hy hS H
    refine ⟨fun h => (by rw [h] at hr; cases hr), fun j hj => ?_⟩
    by_cases hji : j = i
    · subst hji; exact hy.wpOp hi hS ⟨⟨fun _ => rfl, fun _ => Ext.refl _⟩, H⟩
    · have := ready_mono hj hji
      rw [H.1] at this
      cases this
  | succ fuel ih =>
    intro listed a w hcl hfree hr hy hS H
    refine ⟨fun h => (by rw [h] at hr; cases hr), fun j hj => ?_⟩
    by_cases hji : j = i
    · subst hji; exact hy.wpOp hi hS ⟨⟨fun _ => rfl, fun _ => Ext.refl _⟩, H⟩
    · have h1 := H.2 j (ready_mono hj hji)
      obtain ⟨hjun, oj, hoj, hall⟩ := mem_ready.1 hj
      have hiun : listed.getD i false = false := getD_both (mem_ready.1 hr).1
      have hnot : ∀ e ∈ oj.after, Region.binds md e = true → e.on ≠ i := fun e he hb heq => by
        have h1 := hall e he hb
        rw [heq, hiun] at h1
        cases h1
      have h2 := wpOp_putIf hoj (hfree j oj hoj hji hjun hnot) (fun cs b => hsel i oi cs b hi) (fun cs b => hsel j oj cs b hoj) hQ hy h1
      have hfree' : ∀ k ok, ops[k]? = some ok → k ≠ i → (listed.setIfInBounds j true).getD k true = false →
          (∀ e ∈ ok.after, Region.binds md e = true → e.on ≠ i) → oi.apart ops ok = true := fun k ok hk hki hun hno => by
        refine hfree k ok hk hki ?_ hno
        by_cases hjk : j = k
        · subst hjk; exact hjun
        · rw [getD_set_ne true hjk] at hun; exact hun
      refine wpOp_mono (fun a' w' h3 => ?_) h2
      obtain ⟨hy', hc, hP⟩ := h3
      refine ⟨hc, ih (listed.setIfInBounds j true) a' w' (hcl.set_ hj) hfree' (ready_mono hr (Ne.symm hji)) hy' (hkeep listed j hcl hj hiun w w' hS hc) ?_⟩
      rw [Array.setIfInBounds_comm _ _ hji]
      exact hP

/-- Nothing that asks for room. -/
def NoMark {α : Type} (e : Sem α) : Prop := ∀ (P : Program) w es, noRoomEvent ∈ (e.runT P w es).2 → noRoomEvent ∈ es
theorem NoMark.pure {α : Type} (a : α) : NoMark (Pure.pure a : Sem α) := fun P w es h => by
  have : (Pure.pure a : Sem α) = Sem.pure a := rfl
  rw [this] at h
  simpa only [Sem.runT] using h
theorem NoMark.halt {α : Type} (x : Halt) : NoMark (Sem.halt x : Sem α) := fun P w es h => by simpa only [Sem.runT] using h
theorem NoMark.program : NoMark Go.program := fun P w es h => by
  unfold Go.program at h
  simpa only [Sem.runT] using h
theorem NoMark.bind {α β : Type} {e : Sem α} {f : α → Sem β} (he : NoMark e) (hf : ∀ a, NoMark (f a)) : NoMark (e >>= f) := fun P w es h => by
  have : (e >>= f) = e.bind f := rfl
  rw [this, Sem.runT_bind'] at h
  have h1 := he P w es
  generalize e.runT P w es = r at h h1
  obtain ⟨r, es'⟩ := r
  cases r with
  | ok a w' => exact h1 (hf a P w' es' h)
  | halt x w' => exact h1 h
theorem NoMark.underlying (t : TypeId) : NoMark (Go.underlying t) := NoMark.bind NoMark.program fun p => by
  split
  · exact NoMark.pure _
  · exact NoMark.halt _

/-- The kinds of operations that neither look at the world nor may panic. -/
def calmOp : Op → Bool
  | .move _ | .assign _ | .pick .. | .extract .. => true
  | _ => false

theorem calm_worldless {P : Program} {o : Op} (h : calmOp o = true) : worldless P o = true := by
  cases o <;> simp_all [calmOp, worldless]
theorem calm_value {o : Op} (h : calmOp o = true) : valueOp o = true := by
  cases o <;> simp_all [calmOp, valueOp]

/-- They never panic, and ask for no room. -/
theorem calm_spec {P : Program} {ρ : Operand → Value} {o : Oper} (h : calmOp o.op = true) : (∀ w x w', (execOp ρ o).run P w ≠ .halt (.panic x) w') ∧ ∀ w, noRoomEvent ∉ ((execOp ρ o).runT P w #[]).2 := by
  have no : ∀ {e : Sem Next}, NoMark e → ∀ w, noRoomEvent ∉ (e.runT P w #[]).2 := fun h w hh => by have := h P w #[] hh; simp at this
  cases ho : o.op <;> rw [ho] at h <;> simp [calmOp] at h
  case move x =>
    have e : execOp ρ o = Pure.pure (.value (ρ x)) := by unfold execOp; rw [ho]
    rw [e]
    exact ⟨fun w x w' => by simp, no (NoMark.pure _)⟩
  case assign x =>
    have e : execOp ρ o = Pure.pure (.value (ρ x)) := by unfold execOp; rw [ho]
    rw [e]
    exact ⟨fun w x w' => by simp, no (NoMark.pure _)⟩
  case pick c a b =>
    have e : execOp ρ o = (do Pure.pure (.value (if ← asBool (ρ c) then ρ a else ρ b))) := by unfold execOp; rw [ho]
    rw [e]
    have hb : NoMark (asBool (ρ c)) := by
      unfold asBool
      split
      · exact NoMark.pure _
      · exact NoMark.halt _
    refine ⟨fun w x w' => ?_, no (NoMark.bind hb fun _ => NoMark.pure _)⟩
    rw [Sem.run_bind]
    unfold asBool
    split <;> simp [stuck, Result.andThen]
  case extract t i =>
    have e : execOp ρ o = (do Pure.pure (.value (← Instr.extract (ρ t) i))) := by unfold execOp; rw [ho]
    rw [e]
    have hb : NoMark (Instr.extract (ρ t) i) := by
      unfold Instr.extract
      split
      · split
        · exact NoMark.pure _
        · exact NoMark.halt _
      · exact NoMark.halt _
    refine ⟨fun w x w' => ?_, no (NoMark.bind hb fun _ => NoMark.pure _)⟩
    rw [Sem.run_bind]
    unfold Instr.extract
    split
    · split <;> simp [stuck, Result.andThen]
    · simp [stuck, Result.andThen]

/-- What the walk shows of a calm operation. -/
theorem yields_of_calm {t : Nat} {o : Oper} {a : Act} {w : World} {K : Act → World → Prop} (ho : ops[t]? = some o) (hc : calmOp o.op = true) (h : wpOp P ops Q t K a w) :
    ∃ v, YieldsIf P ops (fun _ => True) o v a ∧ K (a.put o.dst v) w := by
  unfold wpOp at h
  rw [ho] at h
  dsimp only at h
  by_cases hw : Region.wanted o (yielded ops a.tmps) = true
  · rw [if_pos hw] at h
    obtain ⟨hp, hm⟩ := calm_spec (P := P) (ρ := a.eval) hc
    rcases h with h | ⟨⟨h, _⟩, _⟩
    · unfold Oper.wp at h
      generalize hr : (execOp a.eval o).run P w = r at h
      cases r with
      | halt x w' => cases x <;> simp only [Oper.upon] at h; exact absurd hr (hp w _ w')
      | ok n w' =>
        obtain ⟨v, rfl⟩ := valueOp_spec (calm_value hc) hr
        have hall := worldless_spec (calm_worldless (P := P) hc) hr
        have hww : w' = w := by have := (hall w).symm.trans hr; injection this with _ e; exact e.symm
        subst hww
        exact ⟨v, .inl ⟨hw, fun u _ => hall u⟩, h⟩
    · exact absurd h (hm w)
  · rw [if_neg hw] at h
    exact ⟨undef, .inr ⟨by simpa using hw, rfl⟩, h⟩

/-- An operation that only makes a block: told beside what the walk shows. -/
theorem wpOp_alloc {t : Nat} {o : Oper} {a : Act} {w : World} {K : Act → World → Prop} (ho : ops[t]? = some o) (hc : allocOp o.op = true) (h : wpOp P ops Q t K a w) : wpOp P ops Q t (fun a' w' => Ext w w' ∧ K a' w') a w := by
  unfold wpOp at *
  rw [ho] at h ⊢
  dsimp only at *
  by_cases hw : Region.wanted o (yielded ops a.tmps) = true
  · rw [if_pos hw] at h ⊢
    refine h.imp (fun h => ?_) id
    unfold Oper.wp at *
    generalize hr : (execOp a.eval o).run P w = r at *
    cases r with
    | halt x w' => cases x <;> simp only [Oper.upon] at h ⊢ <;> exact h
    | ok n w' =>
      obtain ⟨he, v, rfl⟩ := allocOp_spec hc hr
      exact ⟨he, h⟩
  · rw [if_neg hw] at h ⊢
    exact ⟨Ext.refl _, h⟩

def classOf (ops : Array Oper) (ts : List Nat) (j : Nat) : Nat :=
  if ts.contains j then (match ops[j]? with | some o => if allocOp o.op then 1 else 2 | none => 2) else 0

def tailB (md : Region.Mode) (ops : Array Oper) : List Nat → Array Bool → Bool
  | [], listed => (Region.ready md ops listed).isEmpty
  | t :: ts, listed => (Region.ready md ops listed == [t] ||
      ((Region.ready md ops listed).contains t && Region.free md ops listed t && (match ops[t]? with | some o => calmOp o.op | none => false))) && tailB md ops ts (listed.setIfInBounds t true)

theorem wpAnyP_tail {us : List Nat} (hQ : ∀ c a (d : Option Tmp) v w, Q (.panic c) (a.put d v) w → Q (.panic c) a w) (hs : Region.noSelect ops = true) : ∀ (ts : List Nat) (listed : Array Bool) (a : Act) (w : World), Closed md ops listed → (∀ t ∈ ts, us.contains t = true) → tailB md ops ts listed = true →
    wpOps P ops Q ts a w → wpAnyP P md ops Q (classOf ops us) ts.length listed a w
  | [], _, _, _, _, _, hB, h => ⟨by simpa [tailB] using hB, h⟩
  | t :: ts, listed, a, w, hcl, hf, hB, h => by
    simp only [tailB, Bool.and_eq_true, Bool.or_eq_true, beq_iff_eq] at hB
    rw [wpOps_cons] at h
    have hc0 : classOf ops us t ≠ 0 := by
      unfold classOf
      rw [if_pos (hf t (by simp))]
      split
      · split <;> simp
      · simp
    have h1 : wpOp P ops Q t (fun a' w' => (classOf ops us t = 1 → Ext w w') ∧ wpOps P ops Q ts a' w') a w := by
      cases ho : ops[t]? with
      | none => unfold wpOp at *; rw [ho] at h ⊢; exact ⟨fun _ => Ext.refl _, h⟩
      | some o =>
        by_cases hal : allocOp o.op = true
        · exact wpOp_mono (fun a' w' h => ⟨fun _ => h.1, h.2⟩) (wpOp_alloc ho hal h)
        · refine wpOp_mono (fun a' w' h => ⟨fun h1 => ?_, h⟩) h
          unfold classOf at h1
          rw [if_pos (hf t (by simp)), ho] at h1
          simp [hal] at h1
    rcases hB.1 with hB1 | ⟨⟨hr, hfr⟩, hc⟩
    · refine ⟨fun h0 => (by rw [hB1] at h0; cases h0), fun i hi => ?_⟩
      have hi' := hi
      rw [hB1] at hi
      have : i = t := by simpa using hi
      subst this
      exact wpOp_mono (fun a' w' h' => ⟨⟨fun h0 => absurd h0 hc0, h'.1⟩, wpAnyP_tail hQ hs ts _ a' w' (hcl.set_ hi') (fun t ht => hf t (by simp [ht])) hB.2 h'.2⟩) h1
    · have hr' : t ∈ Region.ready md ops listed := by simpa using hr
      cases ho : ops[t]? with
      | none => rw [ho] at hc; cases hc
      | some o =>
        rw [ho] at hc
        obtain ⟨v, hy, hK⟩ := yields_of_calm ho hc h
        exact wpAnyP_first (S := fun _ => True) ho (Region.noSelect_spec hs) (fun c a w => hQ c a _ _ w) (fun _ _ _ _ _ _ _ _ _ => trivial) _ listed a w hcl (Region.free_spec ho hfr) hr' hy trivial
          (wpAnyP_tail hQ hs ts _ _ w (hcl.set_ hr') (fun t ht => hf t (by simp [ht])) hB.2 hK)

def loadOp : Op → Bool
  | .load .. => true
  | _ => false

def earlyB (P : Program) (md : Region.Mode) (ops : Array Oper) (ts : List Nat) : List Nat → Array Bool → Bool
  | [], listed => tailB md ops ts listed
  | i :: es, listed => (Region.ready md ops listed).contains i && Region.free md ops listed i && !ts.contains i &&
      (match ops[i]? with
        | some o => valueOp o.op && (worldless P o.op || (ts.all fun j => waitsT md ops ops.size j i || (loadOp o.op && (match ops[j]? with | some oj => allocOp oj.op | none => false))))
        | none => false) &&
      earlyB P md ops ts es (listed.setIfInBounds i true)

/-- What the walk of the early operations shows of one of them. -/
theorem yieldsIf_of_still {o : Oper} {a : Act} {K : Act → Prop} {w : World} (hv : valueOp o.op = true)
    (h : if Region.wanted o (yielded ops a.tmps) then o.still P a w K else K (a.put o.dst undef)) :
    ∃ v, YieldsIf P ops (fun u => u = w) o v a ∧ (worldless P o.op = true → YieldsIf P ops (fun _ => True) o v a) ∧ (loadOp o.op = true → YieldsIf P ops (fun u => Ext w u) o v a) ∧ K (a.put o.dst v) := by
  by_cases hw : Region.wanted o (yielded ops a.tmps) = true
  · rw [if_pos hw] at h
    unfold Oper.still at h
    generalize hr : (execOp a.eval o).run P w = r at h
    cases r with
    | halt x w' => simp only [Oper.stillUpon] at h
    | ok n w' =>
      obtain ⟨v, rfl⟩ := valueOp_spec hv hr
      simp only [Oper.stillUpon] at h
      obtain ⟨rfl, hK⟩ := h
      refine ⟨v, .inl ⟨hw, fun u hu => by rw [hu]; exact hr⟩, fun hl => .inl ⟨hw, fun u _ => worldless_spec hl hr u⟩, fun hl => .inl ⟨hw, fun u hu => ?_⟩, hK⟩
      cases ho : o.op <;> rw [ho] at hl <;> simp [loadOp] at hl
      case load t x =>
        have e : execOp a.eval o = (do Pure.pure (.value (← Instr.loadAt t (a.eval x)))) := by unfold execOp; rw [ho]
        rw [e] at hr ⊢
        exact (Stb.bind (Stb.loadAt _ _) (fun _ => (Clear.pure _).stb) P _ _ _ hr).2 u hu
  · rw [if_neg hw] at h
    exact ⟨undef, .inr ⟨by simpa using hw, rfl⟩, fun _ => .inr ⟨by simpa using hw, rfl⟩, fun _ => .inr ⟨by simpa using hw, rfl⟩, h⟩

theorem wpAnyP_early {w : World} (hQ : ∀ c a (d : Option Tmp) v w, Q (.panic c) (a.put d v) w → Q (.panic c) a w) (hs : Region.noSelect ops = true) (ts : List Nat) : ∀ (es : List Nat) (listed : Array Bool) (a : Act), Closed md ops listed →
    earlyB P md ops ts es listed = true → wpStill P ops w (fun a' => wpOps P ops Q ts a' w) (es.filterMap (ops[·]?)) a → wpAnyP P md ops Q (classOf ops ts) (es.length + ts.length) listed a w
  | [], listed, a, hcl, hB, h => by
    simp only [List.length_nil, Nat.zero_add]
    exact wpAnyP_tail hQ hs ts listed a w hcl (fun t ht => by simpa using ht) hB h
  | i :: es, listed, a, hcl, hB, h => by
    simp only [earlyB, Bool.and_eq_true] at hB
    obtain ⟨⟨⟨⟨hr, hf⟩, hnt⟩, hk⟩, hrest⟩ := hB
    have hr' : i ∈ Region.ready md ops listed := by simpa using hr
    cases ho : ops[i]? with
    | none => rw [ho] at hk; cases hk
    | some o =>
      rw [ho] at hk
      simp only [Bool.and_eq_true, Bool.or_eq_true] at hk
      rw [List.filterMap_cons_some ho] at h
      obtain ⟨v, hy, hy0, hyl, hK⟩ := yieldsIf_of_still (K := wpStill P ops w (fun a' => wpOps P ops Q ts a' w) (es.filterMap (ops[·]?))) hk.1 h
      have IH := wpAnyP_early hQ hs ts es (listed.setIfInBounds i true) _ (hcl.set_ hr') hrest hK
      rw [List.length_cons, show es.length + 1 + ts.length = (es.length + ts.length) + 1 by omega]
      rcases hk.2 with hl | hl
      · exact wpAnyP_first (S := fun _ => True) ho (Region.noSelect_spec hs) (fun c a w => hQ c a _ _ w) (fun _ _ _ _ _ _ _ _ _ => trivial) _ listed a w hcl (Region.free_spec ho hf) hr' (hy0 hl) trivial IH
      · by_cases hld : loadOp o.op = true
        · refine wpAnyP_first (S := fun u => Ext w u) ho (Region.noSelect_spec hs) (fun c a w => hQ c a _ _ w) (fun listed' j hcl' hj hun u u' hu hc => ?_) _ listed a w hcl (Region.free_spec ho hf) hr' (hyl hld) (Ext.refl _) IH
          cases hfj : ts.contains j with
          | false =>
            have : classOf ops ts j = 0 := by unfold classOf; rw [if_neg (by rw [hfj]; simp)]
            rw [hc.1 this]
            exact hu
          | true =>
            have hwj := List.all_eq_true.1 hl j (by simpa using hfj)
            simp only [Bool.or_eq_true, Bool.and_eq_true] at hwj
            rcases hwj with hwj | ⟨_, hwj⟩
            · rw [hcl'.ready hwj hj] at hun
              cases hun
            · cases hoj : ops[j]? with
              | none => rw [hoj] at hwj; cases hwj
              | some oj =>
                rw [hoj] at hwj
                have : classOf ops ts j = 1 := by unfold classOf; rw [if_pos hfj, hoj]; simp [hwj]
                exact hu.trans (hc.2 this)
        · refine wpAnyP_first (S := fun u => u = w) ho (Region.noSelect_spec hs) (fun c a w => hQ c a _ _ w) (fun listed' j hcl' hj hun u u' hu hc => ?_) _ listed a w hcl (Region.free_spec ho hf) hr' hy rfl IH
          cases hfj : ts.contains j with
          | false =>
            have : classOf ops ts j = 0 := by unfold classOf; rw [if_neg (by rw [hfj]; simp)]
            rw [hc.1 this]
            exact hu
          | true =>
            have hwj := List.all_eq_true.1 hl j (by simpa using hfj)
            simp only [Bool.or_eq_true, Bool.and_eq_true] at hwj
            rcases hwj with hwj | ⟨h2, _⟩
            · rw [hcl'.ready hwj hj] at hun
              cases hun
            · exact absurd h2 hld

/-- The whole check of a plan. -/
def planB (P : Program) (ops : Array Oper) (es ts : List Nat) : Bool :=
  Region.noSelect ops && (es.length + ts.length == ops.size) && earlyB P .any ops ts es (Array.replicate ops.size false)

theorem wpOps_of_list (ts : List Nat) : ∀ (a : Act) (w : World), wpList P ops Q (ts.filterMap (ops[·]?)) a w → wpOps P ops Q ts a w := by
  induction ts with
  | nil => intro a w h; exact h
  | cons t ts ih =>
    intro a w h
    rw [wpOps_cons]
    unfold wpOp
    cases ho : ops[t]? with
    | none =>
      rw [List.filterMap_cons_none ho] at h
      exact ih a w h
    | some o =>
      rw [List.filterMap_cons_some ho] at h
      unfold wpList at h
      dsimp only
      split at h
      · rename_i hw
        rw [if_pos hw]
        exact h.imp (Oper.wp_mono fun a w => ih a w) id
      · rename_i hw
        rw [if_neg hw]
        exact ih _ _ h

theorem wpStill_mono {w : World} {K K' : Act → Prop} (hk : ∀ a, K a → K' a) : ∀ (os : List Oper) (a : Act), wpStill P ops w K os a → wpStill P ops w K' os a
  | [], a, h => hk a h
  | o :: os, a, h => by
    unfold wpStill at h ⊢
    by_cases hw : Region.wanted o (yielded ops a.tmps) = true
    · rw [if_pos hw] at h ⊢; exact Oper.still_mono (fun a h => wpStill_mono hk os a h) h
    · rw [if_neg hw] at h ⊢; exact wpStill_mono hk os _ h

/-- A REGION THAT DRAWS ITS ORDER, BY A PLAN: the operations es are walked first (they only look), then the row ts. -/
theorem wp_region_plan {id : Nat} {a : Act} {w : World} {l : List Oper} (es ts : List Nat) (hm : P.follows .mixedOrders = true) (hB : planB P l.toArray es ts = true)
    (hQ : ∀ c a (d : Option Tmp) v w, Q (.panic c) (a.put d v) w → Q (.panic c) a w)
    (h : wpStill P l.toArray w.drew (fun a' => wpList P l.toArray Q (ts.filterMap (l[·]?)) a' w.drew) (es.filterMap (l[·]?)) a) : (Code.region id l.toArray true).wp P Q a w := by
  simp only [planB, Bool.and_eq_true, beq_iff_eq] at hB
  obtain ⟨⟨hs, hn⟩, hE⟩ := hB
  refine wp_region_any hm (wpAny_of_P (cls := classOf l.toArray ts) _ _ _ _ ?_)
  rw [← hn]
  refine wpAnyP_early (w := w.drew) hQ hs ts es _ a (Closed.start _ _ _) (by rw [hn]; exact hE) ?_
  have e1 : (fun (i : Nat) => l.toArray[i]?) = fun (i : Nat) => l[i]? := by funext i; simp
  rw [e1]
  refine wpStill_mono (fun a' h => wpOps_of_list ts a' _ ?_) _ _ h
  rw [e1]
  exact h
end
end Go.Inq

namespace Go.Inq
open Go.Lib

theorem compact_rise (d : Array Int) (hs : ∀ i j, i ≤ j → j < d.size → d[i]! ≤ d[j]!) : ∀ m, m ≤ d.size →
    (compactUpTo d m).Pairwise (· < ·) ∧ ∀ x, x ∈ compactUpTo d m ↔ ∃ j, j < m ∧ d[j]! = x
  | 0, _ => ⟨by simp [compactUpTo], fun x => by simp [compactUpTo]⟩
  | m + 1, hm => by
    obtain ⟨h1, h2⟩ := compact_rise d hs m (by omega)
    rw [compactUpTo_succ]
    by_cases hk : keeps d m = true
    · rw [if_pos hk]
      refine ⟨List.pairwise_append.2 ⟨h1, by simp, fun a ha b hb => ?_⟩, fun x => ?_⟩
      · obtain rfl : b = d[m]! := by simpa using hb
        obtain ⟨j, hj, rfl⟩ := (h2 a).1 ha
        have hne : d[m]! ≠ d[m - 1]! := by
          unfold keeps at hk
          have := of_decide_eq_true hk
          rcases this with h | h
          · omega
          · exact h
        have e1 := hs j (m - 1) (by omega) (by omega)
        have e2 := hs (m - 1) m (by omega) (by omega)
        omega
      · rw [List.mem_append, h2]
        constructor
        · rintro (⟨j, hj, e⟩ | h)
          · exact ⟨j, by omega, e⟩
          · exact ⟨m, by omega, by simpa using (List.mem_singleton.1 h).symm⟩
        · rintro ⟨j, hj, e⟩
          by_cases he : j = m
          · subst he; exact .inr (by simp [e])
          · exact .inl ⟨j, by omega, e⟩
    · rw [if_neg hk, List.append_nil]
      refine ⟨h1, fun x => ?_⟩
      rw [h2]
      have hk2 : ¬ (m = 0 ∨ d[m]! ≠ d[m - 1]!) := fun h => hk (by unfold keeps; exact decide_eq_true h)
      constructor
      · rintro ⟨j, hj, e⟩; exact ⟨j, by omega, e⟩
      · rintro ⟨j, hj, e⟩
        by_cases he : j = m
        · subst he
          exact ⟨j - 1, by omega, by rw [← e]; exact Eq.symm (Classical.byContradiction fun h => hk2 (.inr h))⟩
        · exact ⟨j, by omega, e⟩

/-- Two rows that rise, of the same elements, are the same. -/
theorem rise_eq : ∀ {a b : List Int}, a.Pairwise (· < ·) → b.Pairwise (· < ·) → (∀ x, x ∈ a ↔ x ∈ b) → a = b
  | [], [], _, _, _ => rfl
  | [], y :: _, _, _, h => by have := (h y).2 (by simp); cases this
  | x :: _, [], _, _, h => by have := (h x).1 (by simp); cases this
  | x :: a, y :: b, ha, hb, h => by
    rw [List.pairwise_cons] at ha hb
    have hxy : x = y := by
      have h1 := (h x).1 (by simp)
      have h2 := (h y).2 (by simp)
      rw [List.mem_cons] at h1 h2
      rcases h1 with h1 | h1
      · exact h1
      · rcases h2 with h2 | h2
        · exact h2.symm
        · have := ha.1 _ h2; have := hb.1 _ h1; omega
    subst hxy
    rw [rise_eq ha.2 hb.2 (fun z => ?_)]
    have hz := h z
    rw [List.mem_cons, List.mem_cons] at hz
    constructor
    · intro hm
      rcases hz.1 (.inr hm) with e | e
      · have := ha.1 _ hm; omega
      · exact e
    · intro hm
      rcases hz.2 (.inr hm) with e | e
      · have := hb.1 _ hm; omega
      · exact e

/-- slices.Compact of what slices.Sort leaves. -/
theorem compact_sorted (l : List Int) : (compact (l.mergeSort fun x y => decide (x ≤ y))).Pairwise (· < ·) ∧ ∀ x, x ∈ compact (l.mergeSort fun x y => decide (x ≤ y)) ↔ x ∈ l := by
  have hp := List.pairwise_mergeSort (le := fun x y : Int => decide (x ≤ y)) (fun a b c h1 h2 => by simp at *; omega) (fun a b => by simp; omega) l
  have hm : ∀ x, x ∈ (l.mergeSort fun x y => decide (x ≤ y)) ↔ x ∈ l := fun x => List.mem_mergeSort
  generalize (l.mergeSort fun x y => decide (x ≤ y)) = s at *
  have hs : ∀ i j, i ≤ j → j < s.toArray.size → s.toArray[i]! ≤ s.toArray[j]! := by
    intro i j hij hj
    have hj' : j < s.length := by simpa using hj
    rw [getElem!_pos s.toArray i (by simp; omega), getElem!_pos s.toArray j hj]
    rcases Nat.lt_or_eq_of_le hij with h | h
    · have := List.pairwise_iff_getElem.1 hp i j (by omega) hj' h
      simpa using this
    · subst h; exact Int.le_refl _
  obtain ⟨h1, h2⟩ := compact_rise s.toArray hs s.length (by simp)
  refine ⟨h1, fun x => ?_⟩
  unfold compact
  rw [h2, ← hm]
  constructor
  · rintro ⟨j, hj, rfl⟩
    rw [getElem!_pos s.toArray j (by simpa using hj)]
    simp
  · intro h
    obtain ⟨j, hj, rfl⟩ := List.getElem_of_mem h
    exact ⟨j, hj, by rw [getElem!_pos s.toArray j (by simpa using hj)]; simp⟩

/-- A choice, or a pair of writers of one key. -/
structure Cho where
  key : Int
  a : Int
  b : Int
deriving DecidableEq

def txnAt (H : List Txn) (t : Nat) : Txn := H.getD t ⟨0, [], []⟩
theorem txnAt_of {H : List Txn} {t : Nat} (h : t < H.length) : txnAt H t = H[t] := by unfold txnAt; rw [List.getD_eq_getElem?_getD, List.getElem?_eq_getElem h]; rfl

/-- Who writes a key (of a history that may be). -/
def wrsTo (H : List Txn) (key : Int) (n : Nat) : List Nat := (List.range n).filter fun t => (txnAt H t).writes.contains key
def wrsL (H : List Txn) (key : Int) : List Nat := wrsTo H key H.length
theorem wrsTo_step (H : List Txn) (key : Int) (n : Nat) : wrsTo H key (n + 1) = wrsTo H key n ++ (if (txnAt H n).writes.contains key then [n] else []) := by
  unfold wrsTo
  rw [List.range_succ, List.filter_append]
  congr 1
  rw [List.filter_cons, List.filter_nil]
theorem wrsL_mem {H : List Txn} {key : Int} {t : Nat} : t ∈ wrsL H key ↔ t < H.length ∧ key ∈ (txnAt H t).writes := by
  unfold wrsL wrsTo; rw [List.mem_filter, List.mem_range, List.contains_iff_mem]
theorem wrsL_rise (H : List Txn) (key : Int) : (wrsL H key).Pairwise (· < ·) := List.Pairwise.filter _ List.pairwise_lt_range
theorem wrsL_len (H : List Txn) (key : Int) : (wrsL H key).length ≤ H.length := Nat.le_trans (List.length_filter_le _ _) (by simp)

/-- All keys that are written, rising. -/
def keysL (H : List Txn) : List Int := compact ((H.map (·.writes)).flatten.mergeSort fun x y => decide (x ≤ y))
theorem keysL_mem {H : List Txn} {k : Int} : k ∈ keysL H ↔ ∃ t, t ∈ H ∧ k ∈ t.writes := by
  unfold keysL
  rw [(compact_sorted _).2, List.mem_flatten]
  constructor
  · rintro ⟨l, hl, hk⟩
    obtain ⟨t, ht, rfl⟩ := List.mem_map.1 hl
    exact ⟨t, ht, hk⟩
  · rintro ⟨t, ht, hk⟩
    exact ⟨t.writes, List.mem_map_of_mem ht, hk⟩
theorem keysL_rise (H : List Txn) : (keysL H).Pairwise (· < ·) := (compact_sorted _).1

/-- Of a history that may be: the keys below 16 that anybody writes. -/
theorem keysL_16 {H : List Txn} (h : ∀ t ∈ H, ∀ k ∈ t.writes, 0 ≤ k ∧ k < 16) : keysL H = ((List.range 16).filter fun (k : Nat) => decide (wrsL H (k : Int) ≠ [])).map fun (k : Nat) => (k : Int) := by
  refine rise_eq (keysL_rise H) ?_ (fun x => ?_)
  · refine List.pairwise_map.2 ?_
    exact (List.Pairwise.filter _ List.pairwise_lt_range).imp (fun hab => by omega)
  · rw [keysL_mem]
    constructor
    · rintro ⟨t, ht, hx⟩
      have hb := h t ht x hx
      obtain ⟨i, hi, rfl⟩ := List.getElem_of_mem ht
      refine List.mem_map.2 ⟨x.toNat, List.mem_filter.2 ⟨by simp; omega, ?_⟩, by omega⟩
      rw [show ((x.toNat : Nat) : Int) = x by omega]
      refine decide_eq_true (fun e => ?_)
      have : i ∈ wrsL H x := wrsL_mem.2 ⟨hi, by rw [txnAt_of hi]; exact hx⟩
      rw [e] at this; cases this
    · intro hx
      obtain ⟨k, hk, rfl⟩ := List.mem_map.1 hx
      obtain ⟨_, hk2⟩ := List.mem_filter.1 hk
      have hk3 := of_decide_eq_true hk2
      cases hw : wrsL H (k : Int) with
      | nil => exact absurd hw hk3
      | cons t r =>
        have : t ∈ wrsL H (k : Int) := by rw [hw]; simp
        obtain ⟨h1, h2⟩ := wrsL_mem.1 this
        rw [txnAt_of h1] at h2
        exact ⟨_, List.getElem_mem h1, h2⟩

/-- All two of some writers. -/
def pairsK (key : Int) : List Nat → List Cho
  | [] => []
  | a :: r => r.map (fun (b : Nat) => (⟨key, a, b⟩ : Cho)) ++ pairsK key r
def pairsL (H : List Txn) : List Cho := ((keysL H).map fun k => pairsK k (wrsL H k)).flatten

/-- Who reads a key from somebody. -/
def rdsL (H : List Txn) (key src : Int) : List Nat := ((List.range H.length).map fun t => ((txnAt H t).reads.filter fun r => decide (r.a = key) && decide (r.b = src)).map fun _ => t).flatten
theorem rdsL_mem {H : List Txn} {key src : Int} {t : Nat} : t ∈ rdsL H key src ↔ t < H.length ∧ ∃ r ∈ (txnAt H t).reads, r.a = key ∧ r.b = src := by
  unfold rdsL
  rw [List.mem_flatten]
  constructor
  · rintro ⟨l, hl, ht⟩
    obtain ⟨u, hu, rfl⟩ := List.mem_map.1 hl
    obtain ⟨r, hr, rfl⟩ := List.mem_map.1 ht
    obtain ⟨h1, h2⟩ := List.mem_filter.1 hr
    exact ⟨by simpa using hu, r, h1, by simpa using h2⟩
  · rintro ⟨h, r, hr, hk⟩
    exact ⟨_, List.mem_map.2 ⟨t, by simpa using h, rfl⟩, List.mem_map.2 ⟨r, List.mem_filter.2 ⟨hr, by simpa using hk⟩, rfl⟩⟩
end Go.Inq

namespace Go.Inq

/-- The numbers below n of which p says so, as bits. -/
def setB (p : Nat → Bool) : Nat → Nat
  | 0 => 0
  | n + 1 => setB p n ||| (if p n then 2 ^ n else 0)

theorem testBit_setB (p : Nat → Bool) : ∀ (n i : Nat), (setB p n).testBit i = (decide (i < n) && p i)
  | 0, i => by simp [setB]
  | n + 1, i => by
    unfold setB
    rw [Nat.testBit_or, testBit_setB p n i]
    by_cases h : i = n
    · subst h
      cases hp : p i <;> simp [hp, Nat.testBit_two_pow]
    · have h2 : (if p n = true then 2 ^ n else 0).testBit i = false := by
        split
        · rw [Nat.testBit_two_pow]; simp; omega
        · simp
      rw [h2]
      have h3 : decide (i < n + 1) = decide (i < n) := by simp; omega
      rw [h3]; simp

theorem setB_lt (p : Nat → Bool) (n : Nat) : setB p n < 2 ^ n := by
  refine Nat.lt_pow_two_of_testBit _ (fun i hi => ?_)
  rw [testBit_setB]; simp; omega

theorem setB_eq {p : Nat → Bool} {n x : Nat} (hx : x < 2 ^ n) (h : ∀ i, i < n → x.testBit i = p i) : x = setB p n := by
  refine Nat.eq_of_testBit_eq (fun i => ?_)
  rw [testBit_setB]
  by_cases hi : i < n
  · rw [h i hi]; simp [hi]
  · rw [Nat.testBit_lt_two_pow (Nat.lt_of_lt_of_le hx (Nat.pow_le_pow_right (by decide) (by omega)))]; simp [hi]

theorem setB_self {n x : Nat} (hx : x < 2 ^ n) : setB x.testBit n = x := (setB_eq hx (fun _ _ => rfl)).symm

theorem setB_congr {p q : Nat → Bool} {n : Nat} (h : ∀ i, i < n → p i = q i) : setB p n = setB q n :=
  setB_eq (setB_lt p n) (fun i hi => by rw [testBit_setB, h i hi]; simp [hi])

/-- One number's bit. -/
theorem one_or (x i : Nat) (j : Nat) : (x ||| 2 ^ i).testBit j = (x.testBit j || decide (i = j)) := by
  rw [Nat.testBit_or, Nat.testBit_two_pow]

theorem and_one (x i : Nat) : (x &&& 2 ^ i = 0) ↔ x.testBit i = false := by
  constructor
  · intro h
    have := congrArg (fun y => y.testBit i) h
    simpa [Nat.testBit_and, Nat.testBit_two_pow] using this
  · intro h
    refine Nat.eq_of_testBit_eq (fun j => ?_)
    rw [Nat.testBit_and, Nat.testBit_two_pow]
    by_cases e : i = j
    · subst e; simp [h]
    · simp [e]


/-- A graph's rows, of n nodes, by its edges. -/
def rowsG (n : Nat) (E : Nat → Nat → Bool) : List Nat := (List.range n).map fun a => setB (E a) n
theorem rowsG_length (n : Nat) (E : Nat → Nat → Bool) : (rowsG n E).length = n := by simp [rowsG]
theorem rowsG_at {n : Nat} {E : Nat → Nat → Bool} {a : Nat} (h : a < n) : (rowsG n E)[a]'(by rw [rowsG_length]; exact h) = setB (E a) n := by simp [rowsG]
theorem rowsG_congr {n : Nat} {E F : Nat → Nat → Bool} (h : ∀ a b, a < n → b < n → E a b = F a b) : rowsG n E = rowsG n F := by
  unfold rowsG
  refine List.map_congr_left (fun a ha => setB_congr (fun b hb => h a b (by simpa using ha) hb))
theorem rowsG_self {l : List Nat} (h : ∀ x ∈ l, x < 2 ^ l.length) : rowsG l.length (fun a b => (l.getD a 0).testBit b) = l := by
  refine List.ext_getElem (by simp [rowsG]) (fun a h1 h2 => ?_)
  simp only [rowsG, List.getElem_map, List.getElem_range]
  rw [show (fun b => (l.getD a 0).testBit b) = (l.getD a 0).testBit from rfl]
  rw [List.getD_eq_getElem?_getD, List.getElem?_eq_getElem h2]
  exact setB_self (h _ (List.getElem_mem h2))
end Go.Inq

namespace Go.Inq

/-- A set's numbers, rising. -/
def listB (x : Nat) : List Nat := (List.range 64).filter fun i => x.testBit i

theorem filter_least (p : Nat → Bool) (k : Nat) (hk : p k = true) (hl : ∀ i, i < k → p i = false) : ∀ n, k < n → (List.range n).filter p = k :: (List.range n).filter (fun i => p i && decide (i ≠ k))
  | 0, h => absurd h (by omega)
  | n + 1, h => by
    rw [List.range_succ, List.filter_append, List.filter_append]
    by_cases e : k = n
    · subst e
      have h1 : (List.range k).filter p = [] := by
        rw [List.filter_eq_nil_iff]; intro i hi; rw [hl i (by simpa using hi)]; simp
      have h2 : (List.range k).filter (fun i => p i && decide (i ≠ k)) = [] := by
        rw [List.filter_eq_nil_iff]; intro i hi; rw [hl i (by simpa using hi)]; simp
      rw [h1, h2]; simp [hk]
    · rw [filter_least p k hk hl n (by omega)]
      have e2 : decide (n ≠ k) = true := by simp; omega
      simp only [List.filter_cons, List.filter_nil, e2, Bool.and_true, List.cons_append]

theorem odd_bit (k m i : Nat) : (2 ^ k * (2 * m + 1)).testBit i = (decide (k ≤ i) && (decide (i = k) || m.testBit (i - k - 1))) := by
  rw [Nat.mul_comm, Nat.testBit_mul_two_pow]
  by_cases h : k ≤ i
  · by_cases e : i = k
    · subst e; simp [Nat.testBit_zero]
    · obtain ⟨j, rfl⟩ : ∃ j, i = k + (j + 1) := ⟨i - k - 1, by omega⟩
      rw [show k + (j + 1) - k = j + 1 by omega, Nat.testBit_succ, show (2 * m + 1) / 2 = m by omega, show j + 1 - 1 = j by omega]
      simp
  · simp [h]

theorem less_bit (k m i : Nat) : (2 ^ k * (2 * m + 1) - 1).testBit i = (decide (i < k) || (decide (k < i) && m.testBit (i - k - 1))) := by
  have e : 2 ^ k * (2 * m + 1) - 1 = 2 ^ k * (2 * m) + (2 ^ k - 1) := by
    have := Nat.two_pow_pos k
    rw [Nat.mul_add, Nat.mul_one]; omega
  rw [e, Nat.testBit_two_pow_mul_add _ (by have := Nat.two_pow_pos k; omega)]
  by_cases h : i < k
  · rw [if_pos h, Nat.testBit_two_pow_sub_one]; simp [h]
  · rw [if_neg h]
    by_cases e : i = k
    · subst e; simp [Nat.testBit_zero]
    · obtain ⟨j, rfl⟩ : ∃ j, i = k + (j + 1) := ⟨i - k - 1, by omega⟩
      rw [show k + (j + 1) - k = j + 1 by omega, Nat.testBit_succ, show 2 * m / 2 = m by omega, show j + 1 - 1 = j by omega, decide_eq_false h, decide_eq_true (show k < k + (j + 1) by omega)]
      simp

/-- Without its least number. -/
theorem drop_bit (x : Nat) (h0 : x ≠ 0) (hx : x < 2 ^ 64) : x.testBit (Lib.ctz 64 x) = true ∧ (∀ i, i < Lib.ctz 64 x → x.testBit i = false) ∧ Lib.ctz 64 x < 64 ∧ ∀ i, (x &&& (x - 1)).testBit i = (x.testBit i && decide (i ≠ Lib.ctz 64 x)) := by
  have e : Lib.ctz 64 x = Lib.ctzFrom 64 x := by unfold Lib.ctz; rw [if_neg h0]
  rw [e]
  obtain ⟨m, hm, hk⟩ := Lib.ctzFrom_spec 64 x (by omega) hx
  generalize Lib.ctzFrom 64 x = k at *
  subst hm
  refine ⟨?_, ?_, hk, ?_⟩
  · rw [odd_bit]; simp
  · intro i hi; rw [odd_bit]; simp; omega
  · intro i
    rw [Nat.testBit_and, odd_bit, less_bit]
    by_cases h1 : i < k
    · have : ¬ k ≤ i := by omega
      simp [this]
    · by_cases h2 : i = k
      · subst h2; simp
      · have h3 : k < i := by omega
        have h4 : k ≤ i := by omega
        simp [h1, h2, h3, h4]

theorem listB_next (x : Nat) (h0 : x ≠ 0) (hx : x < 2 ^ 64) : listB x = Lib.ctz 64 x :: listB (x &&& (x - 1)) := by
  obtain ⟨h1, h2, h3, h4⟩ := drop_bit x h0 hx
  unfold listB
  rw [filter_least _ _ h1 h2 64 h3]
  congr 1
  refine List.filter_congr (fun i _ => (h4 i).symm)
theorem listB_zero : listB 0 = [] := by simp [listB]
theorem and_less (x : Nat) (hx : x < 2 ^ 64) : x &&& (x - 1) < 2 ^ 64 := Nat.lt_of_le_of_lt Nat.and_le_left hx
theorem listB_mem {x i : Nat} : i ∈ listB x ↔ i < 64 ∧ x.testBit i = true := by simp [listB]
theorem listB_len (x : Nat) : (listB x).length ≤ 64 := Nat.le_trans (List.length_filter_le _ _) (by simp)
end Go.Inq

namespace Go.Inq

/-- An edge of a graph that is told by its rows. -/
def hasG (g : List Nat) (a b : Nat) : Bool := (g.getD a 0).testBit b
theorem hasG_rows {n : Nat} {E : Nat → Nat → Bool} {a b : Nat} (ha : a < n) (hb : b < n) : hasG (rowsG n E) a b = E a b := by
  unfold hasG
  rw [List.getD_eq_getElem?_getD, List.getElem?_eq_getElem (by rw [rowsG_length]; exact ha), Option.getD_some, rowsG_at ha, testBit_setB]
  simp [hb]
theorem rowsG_lt {n : Nat} {E : Nat → Nat → Bool} {x : Nat} (h : x ∈ rowsG n E) : x < 2 ^ n := by
  unfold rowsG at h
  obtain ⟨a, _, rfl⟩ := List.mem_map.1 h
  exact setB_lt _ _

abbrev Edges := Nat → Nat → Bool
def orE (E F : Edges) : Edges := fun a b => E a b || F a b
def thenE (n : Nat) (E F : Edges) : Edges := fun a c => (List.range n).any fun b => E a b && F b c
def turnE (E : Edges) : Edges := fun a b => E b a

/-- The sessions' order; who reads from whom; who reads what was there at first, and who wrote over it. -/
def soE (H : List Txn) : Edges := fun a b => decide (a < b) && decide ((txnAt H a).sess = (txnAt H b).sess)
def wrE (H : List Txn) : Edges := fun a b => decide (a ≠ b) && (txnAt H b).reads.any fun r => decide (r.b = (a : Int))
def initE (H : List Txn) : Edges := fun a b => decide (a ≠ b) && (txnAt H a).reads.any fun r => decide (r.b = -1) && (txnAt H b).writes.contains r.a
def pastE (H : List Txn) : Edges := orE (soE H) (wrE H)
/-- What follows, if it is known whose write is ahead. -/
def wwE (l : List Cho) : Edges := fun a b => l.any fun c => decide (c.a = (a : Int)) && decide (c.b = (b : Int))
def rwE (H : List Txn) (l : List Cho) : Edges := fun t b => initE H t b || l.any fun c => decide (c.b = (b : Int)) && decide (t ≠ b) && (txnAt H t).reads.any fun r => decide (r.a = c.key) && decide (r.b = c.a)
def fullE (H : List Txn) (level : Int) (l : List Cho) : Edges :=
  let d := orE (pastE H) (wwE l)
  orE d (if level = 1 then thenE H.length d (rwE H l) else rwE H l)

/-- As the program lays it: by keys, readers of what was there at first, and writers. -/
theorem initE_iff {H : List Txn} {a b : Nat} (ha : a < H.length) (hb : b < H.length) : initE H a b = true ↔ a ≠ b ∧ ∃ k ∈ keysL H, a ∈ rdsL H k (-1) ∧ b ∈ wrsL H k := by
  unfold initE
  rw [Bool.and_eq_true, List.any_eq_true]
  constructor
  · rintro ⟨h1, r, hr, h2⟩
    rw [Bool.and_eq_true, List.contains_iff_mem] at h2
    refine ⟨of_decide_eq_true h1, r.a, keysL_mem.2 ⟨H[b], List.getElem_mem hb, by rw [← txnAt_of hb]; exact h2.2⟩, rdsL_mem.2 ⟨ha, r, hr, rfl, of_decide_eq_true h2.1⟩, wrsL_mem.2 ⟨hb, h2.2⟩⟩
  · rintro ⟨h1, k, _, hr, hw⟩
    obtain ⟨_, r, hr2, rfl, e⟩ := rdsL_mem.1 hr
    exact ⟨decide_eq_true h1, r, hr2, by rw [Bool.and_eq_true, List.contains_iff_mem]; exact ⟨decide_eq_true e, (wrsL_mem.1 hw).2⟩⟩

/-- The least that may come next. -/
def nextT (n : Nat) (E : Edges) (l : List Nat) : Option Nat := (List.range n).find? fun v => !l.contains v && (List.range n).all fun x => !E x v || l.contains x
def orderTo (n : Nat) (E : Edges) : Nat → Option (List Nat)
  | 0 => some []
  | k + 1 => match orderTo n E k with
    | none => none
    | some l => match nextT n E l with
      | none => none
      | some v => some (l ++ [v])
def orderT (n : Nat) (E : Edges) : Option (List Nat) := orderTo n E n
theorem orderTo_len {n : Nat} {E : Edges} : ∀ {k : Nat} {l : List Nat}, orderTo n E k = some l → l.length = k
  | 0, l, h => by unfold orderTo at h; injection h with h; subst h; rfl
  | k + 1, l, h => by
    unfold orderTo at h
    split at h
    · cases h
    · rename_i l0 h0
      split at h
      · cases h
      · injection h with h; subst h; simp [orderTo_len h0]

/-- A state of Widen. -/
structure Wd where
  width : Int
  cut : Bool
  path : List Int
  left : List (List Int)
deriving DecidableEq

def freshW (n : Nat) (l path : List Int) : Bool := l.all fun t => decide (0 ≤ t) && decide (t < (n : Int)) && !path.contains t
def riseW : List Int → Bool
  | a :: b :: r => decide (a < b) && riseW (b :: r)
  | _ => true
/-- May a state be? -/
def rightW (H : List Txn) (s : Wd) : Bool :=
  rightH H && decide (1 ≤ s.width) && decide (s.width ≤ 32) && decide (s.path.length ≤ H.length - 1) &&
  ((List.range s.path.length).all fun i => freshW H.length [s.path.getD i 0] (s.path.take i)) &&
  (if s.left = [] then decide (s.path = []) else
    decide (s.left.length = s.path.length + 1) && (List.range s.left.length).all fun i => riseW (s.left.getD i []) && freshW H.length (s.left.getD i []) (s.path.take i))

/-- What can come behind some numbers. -/
def comeW (H : List Txn) (path : List Int) : List Int :=
  ((List.range H.length).filter fun (t : Nat) => !path.contains (t : Int) && (List.range H.length).all fun (x : Nat) => !pastE H x t || path.contains (x : Int)).map fun (t : Nat) => (t : Int)
def putW (H : List Txn) (s : Wd) : Wd :=
  let l := comeW H s.path
  { s with cut := s.cut || decide (s.width < (l.length : Int)), left := s.left ++ [l.take s.width.toNat] }
/-- What numbers decide of a pair. -/
def turnC (path : List Int) (p : Cho) : Option Cho :=
  match path.idxOf? p.a, path.idxOf? p.b with
  | none, none => none
  | some i, some j => if j < i then some ⟨p.key, p.b, p.a⟩ else some p
  | some _, none => some p
  | none, some _ => some ⟨p.key, p.b, p.a⟩
def decW (H : List Txn) (path : List Int) : List Cho := (pairsL H).filterMap (turnC path)

/-- A step: the state behind it, what it says, and an order. -/
def stepW (H : List Txn) (level : Int) (s : Wd) : Wd × Int × List Int :=
  if rightW H s = false ∨ (level ≠ 0 ∧ level ≠ 1) then (s, 3, [])
  else if H = [] then (s, 1, [])
  else match s.left.getLast? with
  | none => (putW H s, 0, [])
  | some [] =>
    if s.left.length > 1 then ({ s with left := s.left.dropLast, path := s.path.dropLast }, 0, [])
    else if s.cut = true ∧ s.width < 32 then (⟨s.width + 1, false, [], []⟩, 0, [])
    else (s, 3, [])
  | some (t :: r) =>
    let longer := s.path ++ [t]
    let s2 : Wd := { s with left := s.left.dropLast ++ [r] }
    match orderT H.length (fullE H level (decW H longer)) with
    | none => (s2, 0, [])
    | some o => if longer.length = H.length then (s2, 1, o.map fun (x : Nat) => (x : Int)) else (putW H { s2 with path := longer }, 0, [])
end Go.Inq

namespace Go.Proofs.YtfhnamomiaekdaaGreat
open Go.RowKit Go.Inq

def idxI (l : List Int) (x : Int) : Int := match l.findIdx? (· == x) with | some k => k | none => -1
theorem idxI_hit {l : List Int} {x : Int} {k : Nat} (hk : k < l.length) (h : l[k] = x) (h0 : ∀ j (hj : j < l.length), j < k → l[j] ≠ x) : idxI l x = k := by
  unfold idxI
  have : l.findIdx? (· == x) = some k := by
    rw [List.findIdx?_eq_some_iff_getElem]
    exact ⟨hk, by simpa using h, fun j hj => by simpa using h0 j (by omega) hj⟩
  rw [this]
theorem idxI_none {l : List Int} {x : Int} (h0 : ∀ j (hj : j < l.length), l[j] ≠ x) : idxI l x = -1 := by
  unfold idxI
  have : l.findIdx? (· == x) = none := by
    rw [List.findIdx?_eq_none_iff]
    intro y hy
    obtain ⟨j, hj, rfl⟩ := List.getElem_of_mem hy
    simpa using h0 j hj
  rw [this]
theorem idxI_contains (l : List Int) (x : Int) : decide (0 ≤ idxI l x) = l.contains x := by
  by_cases h : x ∈ l
  · rw [List.contains_iff_mem.2 h]
    unfold idxI
    cases hf : l.findIdx? (· == x) with
    | none =>
      rw [List.findIdx?_eq_none_iff] at hf
      have := hf x h
      simp at this
    | some k => simp
  · have : l.contains x = false := by simpa using h
    rw [this, idxI_none (fun j hj e => h (by rw [← e]; exact List.getElem_mem hj))]
    rfl
end Go.Proofs.YtfhnamomiaekdaaGreat

namespace Go.Proofs.YtfhnamomiaekdaaGreat
open Go.RowKit Go.Inq
set_option maxHeartbeats 1000000
attribute [local go_sem ↓] Go.wp_at_zero Go.wp_at_succ

theorem index_int (A : Option Addr) (c : Nat) (l : List Int) (x : Int) (K : Nat → Prop) (w : World) (h : IntS w K (.slice A l.length c) l) (hn : l.length ≤ maxLen) :
    Calls Tryz.prog 44 #[.slice A l.length c, .int .i64 x] w fun e w' => e = .returned (.int .i64 (idxI l x)) ∧ w = w' := by
  unfold maxLen at hn
  have hhit := hide (fun k => idxI_hit (l := l) (x := x) (k := k))
  have hnone := hide (idxI_none (l := l) (x := x))
  go_enter Tryz.func44, Tryz.ntmps44
  go_wp2_with fail
  go_loop [5, 8] (fun s5 s8 => ∃ k : Nat, k ≤ l.length ∧ s8 = .int .i64 k ∧ Hid (∀ j (hj : j < l.length), j < k → l[j] ≠ x)) (fun _ s8 => l.length - (intOf s8).toNat)
  case atStart => exact ⟨0, Nat.zero_le _, by go_num, fun j hj h => absurd h (by omega)⟩
  case round =>
    obtain ⟨k, hk, rfl, hall⟩ := hrel
    by_cases hlt : k < l.length
    · have hi2 : (k : Int) < (l.length : Int) := by omega
      obtain ⟨b, off, rfl, _, hc⟩ := h.at_ hlt
      have hh := hide (fun g => hhit.out k hlt g hall.out)
      have hst : Hid (l[k] ≠ x → ∀ j (hj : j < l.length), j < k + 1 → l[j] ≠ x) := fun g j hj hjk => by
        by_cases e : j = k
        · subst e; exact g
        · exact hall.out j hj (by omega)
      clear hall
      by_cases he : x = l[k]
      · have hb : (x == l[k]) = true := by simpa using he
        have hr := hide (hh.out he.symm)
        clear he hh hst
        go_wp2
        go_ret
        exact ⟨ret_int hr.out.symm, rfl⟩
      · have hb : (x == l[k]) = false := by simpa using he
        have hn2 := hide (hst.out (fun e => he e.symm))
        clear he hh hst
        go_wp2
        go_round
        case rel => exact ⟨k + 1, by omega, by go_num, hn2⟩
        case measure => simp [intOf]; omega
    · have hr := hide (hnone.out fun j hj => hall.out j hj (by omega))
      go_wp2
      go_ret
      exact ⟨ret_int hr.out.symm, rfl⟩
theorem contains_int (A : Option Addr) (c : Nat) (l : List Int) (x : Int) (K : Nat → Prop) (w : World) (h : IntS w K (.slice A l.length c) l) (hn : l.length ≤ maxLen) :
    Calls Tryz.prog 93 #[.slice A l.length c, .int .i64 x] w fun e w' => e = .returned (.bool (l.contains x)) ∧ w = w' := by
  have hd := hide (idxI_contains l x)
  go_enter Tryz.func93, Tryz.ntmps93
  go_wp2_with fail
  refine (index_int A c l x K _ h hn).mono ?_
  rintro e w1 ⟨rfl, rfl⟩
  go_wp2
  go_ret
  exact ⟨by rw [← hd.out]; rfl, rfl⟩
end Go.Proofs.YtfhnamomiaekdaaGreat
