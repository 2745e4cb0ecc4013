/-
  Walks: layer 7: note.
-/
import Derived.Test.YtphcebgpllecjaaGreatDoorC12
set_option linter.unusedVariables false
set_option linter.unusedSimpArgs false
namespace Go.Proofs.YtphcebgpllecjaaGreatDoor
open Go.RowKit Go.Inq
set_option maxHeartbeats 2000000
attribute [local go_sem ↓] Go.wp_at_zero Go.wp_at_succ

/-- What is wrong with the op at a place, where s tells how often others write a value. -/
def noteE (s : It → Nat) (ops : List Ev) (j : Nat) : Int := match ops[j]? with
  | none => 0
  | some e => if e.kind ≠ 2 then 0 else if e.val = 0 then 7 else if 0 < Go.Inq.wr ops j ⟨e.key, e.val⟩ + s ⟨e.key, e.val⟩ then 8 else 0
def noteR (s : It → Nat) (ops : List Ev) : Int := match firstN ops.length (noteE s ops) with
  | some j => noteE s ops j
  | none => 0
theorem noteE_at {s : It → Nat} {ops : List Ev} {j : Nat} (hj : j < ops.length) : noteE s ops j = if ops[j].kind ≠ 2 then 0 else if ops[j].val = 0 then 7 else if 0 < Go.Inq.wr ops j ⟨ops[j].key, ops[j].val⟩ + s ⟨ops[j].key, ops[j].val⟩ then 8 else 0 := by
  unfold noteE
  rw [List.getElem?_eq_getElem hj]
theorem note_bad {s : It → Nat} {ops : List Ev} {j : Nat} (hj : j < ops.length) (hall : ∀ k, k < j → noteE s ops k = 0) (hb : noteE s ops j ≠ 0) : noteR s ops = noteE s ops j := by
  unfold noteR
  rw [firstN_some hj hall hb]
theorem note_good {s : It → Nat} {ops : List Ev} (hall : ∀ k, k < ops.length → noteE s ops k = 0) : noteR s ops = 0 := by
  unfold noteR
  rw [firstN_none hall]
/-- The map behind the first ops. -/
def noted (B : It → Option (Int × Int)) (p : Int × Int) (ops : List Ev) (j : Nat) (x : It) : Option (Int × Int) := if 0 < Go.Inq.wr ops j x then some p else B x
theorem noted_zero (B : It → Option (Int × Int)) (p : Int × Int) (ops : List Ev) (x : It) : noted B p ops 0 x = B x := by unfold noted; rw [wr_zero, if_neg (by omega)]
theorem noted_skip {B : It → Option (Int × Int)} {p : Int × Int} {ops : List Ev} {j : Nat} (hj : j < ops.length) (hk : ops[j].kind ≠ 2) (x : It) : noted B p ops (j + 1) x = noted B p ops j x := by
  unfold noted
  rw [wr_miss hj]
  cases h : isW x ops[j] with
  | false => rfl
  | true => exact absurd ((isW_iff _ _).1 h).1 hk
theorem noted_put {B : It → Option (Int × Int)} {p : Int × Int} {ops : List Ev} {j : Nat} (hj : j < ops.length) (hk : ops[j].kind = 2) (x : It) :
    noted B p ops (j + 1) x = if x = ⟨ops[j].key, ops[j].val⟩ then some p else noted B p ops j x := by
  unfold noted
  by_cases hx : x = ⟨ops[j].key, ops[j].val⟩
  · rw [if_pos hx, wr_hit hj ((isW_iff _ _).2 ⟨hk, by rw [hx], by rw [hx]⟩), if_pos (by omega)]
  · rw [if_neg hx, wr_miss hj]
    cases h : isW x ops[j] with
    | false => rfl
    | true =>
      obtain ⟨-, h2, h3⟩ := (isW_iff _ _).1 h
      exact absurd (by cases x; simp at h2 h3; rw [h2, h3]) hx
theorem noted_some {B : It → Option (Int × Int)} {p : Int × Int} {s : It → Nat} (hB : ∀ x, (B x).isSome = decide (0 < s x)) (ops : List Ev) (j : Nat) (x : It) : (noted B p ops j x).isSome = decide (0 < Go.Inq.wr ops j x + s x) := by
  unfold noted
  by_cases h : 0 < Go.Inq.wr ops j x
  · rw [if_pos h]; simp; omega
  · rw [if_neg h, hB]
    congr 1
    rw [show Go.Inq.wr ops j x = 0 by omega, Nat.zero_add]
theorem setBlock_heap (w : World) (g b : Nat) (o : Obj) (h : b ≠ g) : (ChangeMaps.setBlock w g o).heap[b]? = w.heap[b]? := by
  unfold ChangeMaps.setBlock
  simp [Array.getElem?_setIfInBounds, Ne.symm h]
theorem setBlock_size (w : World) (g : Nat) (o : Obj) : (ChangeMaps.setBlock w g o).heap.size = w.heap.size := by
  unfold ChangeMaps.setBlock
  simp
theorem setBlock_below {n : Nat} {w0 w : World} (h : Below n w0 w) {g : Nat} (hg : n ≤ g) (o : Obj) : Below n w0 (ChangeMaps.setBlock w g o) :=
  ⟨h.os, h.tape, h.output, by rw [setBlock_size]; exact h.size, fun b hb => (setBlock_heap w g b o (by omega)).trans (h.block b hb)⟩
theorem setBlock_blk {w : World} {g b : Nat} {o : Obj} {t : TypeId} {cs : Array Value} (h : Blk w b t cs) (hg : b ≠ g) : Blk (ChangeMaps.setBlock w g o) b t cs := (setBlock_heap w g b o hg).trans h
theorem zeroW (w : World) : (zeroValue 81).run Tryz.prog w = .ok (.agg #[.int .i64 0, .int .i64 0]) w := by kernel_rfl

set_option maxRecDepth 100000 in
theorem note_any (gm : Nat) (B : It → Option (Int × Int)) (s : It → Nat) (p q : Int) (t : Tx) (A : Option Addr) (c : Nat) (w : World) (hm : MapF encW w gm B) (hB : ∀ x, (B x).isSome = decide (0 < s x))
    (h : EvS w (fun b => b < w.heap.size ∧ b ≠ gm) (.slice A t.ops.length c) t.ops) (hn : t.ops.length ≤ 1000000) :
    Calls Tryz.prog 34 #[.map (some gm), .agg #[.int .i64 t.sess, .bool t.done, .int .i64 t.first, .slice A t.ops.length c], .agg #[.int .i64 p, .int .i64 q]] w fun e w' =>
      e = .returned (.int .i64 (noteR s t.ops)) ∧ (noteR s t.ops = 0 → MapF encW w' gm (noted B (p, q) t.ops t.ops.length)) ∧ Below gm w w' ∧ Agree (fun b => b < w.heap.size ∧ b ≠ gm) w w' := by
  obtain ⟨ts, td, tf, l⟩ := t
  dsimp only at *
  have hbad := hide (fun j => note_bad (s := s) (ops := l) (j := j))
  have hgood := hide (note_good (s := s) (ops := l))
  have hsome := hide (fun j x => noted_some (p := (p, q)) hB l j x)
  have hskip := hide (fun j hj hk x => noted_skip (B := B) (p := (p, q)) (ops := l) (j := j) hj hk x)
  have hput := hide (fun j hj hk x => noted_put (B := B) (p := (p, q)) (ops := l) (j := j) hj hk x)
  have hgm := hm.lt
  have hm0 : MapF encW w gm (noted B (p, q) l 0) := hm.same fun x => (noted_zero B (p, q) l x).symm
  clear hm hB
  have kT : Blk ((w.alloc (.cells #[.int .i64 ts, .bool td, .int .i64 tf, .slice A l.length c] 49)).alloc (.cells #[.int .i64 p, .int .i64 q] 81)) w.heap.size 49 #[.int .i64 ts, .bool td, .int .i64 tf, .slice A l.length c] := (Blk.new _ _ _).alloc _
  have kW : Blk ((w.alloc (.cells #[.int .i64 ts, .bool td, .int .i64 tf, .slice A l.length c] 49)).alloc (.cells #[.int .i64 p, .int .i64 q] 81)) (w.heap.size + 1) 81 #[.int .i64 p, .int .i64 q] := by
    have := Blk.new (w.alloc (.cells #[.int .i64 ts, .bool td, .int .i64 tf, .slice A l.length c] 49)) 81 #[.int .i64 p, .int .i64 q]
    simpa using this
  have hA : Below w.heap.size w ((w.alloc (.cells #[.int .i64 ts, .bool td, .int .i64 tf, .slice A l.length c] 49)).alloc (.cells #[.int .i64 p, .int .i64 q] 81)) := ((Below.refl _ _).alloc (Nat.le_refl _) _).alloc (by simp) _
  have hm1 := hm0.below hA hgm
  have hA2 : Agree (fun b => b < w.heap.size ∧ b ≠ gm) w ((w.alloc (.cells #[.int .i64 ts, .bool td, .int .i64 tf, .slice A l.length c] 49)).alloc (.cells #[.int .i64 p, .int .i64 q] 81)) := Agree.below hA fun b hb => hb.1
  have hA3 : Below gm w ((w.alloc (.cells #[.int .i64 ts, .bool td, .int .i64 tf, .slice A l.length c] 49)).alloc (.cells #[.int .i64 p, .int .i64 q] 81)) := hA.mono (Nat.le_of_lt hgm)
  have hsz := hA.size
  go_enter Tryz.func34, Tryz.ntmps34
  go_wp2_with fail
  generalize (w.alloc (.cells #[.int .i64 ts, .bool td, .int .i64 tf, .slice A l.length c] 49)).alloc (.cells #[.int .i64 p, .int .i64 q] 81) = W at *
  clear hA hm0
  go_loopw [8, 9, 10, 11, 15] (fun _ _ _ _ s15 wr => ∃ j : Nat, j ≤ l.length ∧ s15 = .int .i64 j ∧ Blk wr w.heap.size 49 #[.int .i64 ts, .bool td, .int .i64 tf, .slice A l.length c] ∧ Blk wr (w.heap.size + 1) 81 #[.int .i64 p, .int .i64 q] ∧
    MapF encW wr gm (noted B (p, q) l j) ∧ Hid (∀ k, k < j → noteE s l k = 0) ∧ Below gm w wr ∧ Agree (fun b => b < w.heap.size ∧ b ≠ gm) w wr ∧ w.heap.size ≤ wr.heap.size) (fun _ _ _ _ s15 _ => l.length - (intOf s15).toNat)
  case atStart => exact ⟨0, Nat.zero_le _, by go_num, kT, kW, hm1, fun k h => absurd h (by omega), hA3, hA2, hsz⟩
  case round =>
    obtain ⟨j, hj, rfl, kT', kW', hmf, hall, hb, hag, hsz'⟩ := hrel
    clear kT kW hm1 hA2 hA3 hsz
    have hj1 : (0 : Int) ≤ (j : Int) := Int.natCast_nonneg _
    by_cases hlt : j < l.length
    · have hj2 : (j : Int) < (l.length : Int) := by omega
      have hev := EvS.keep h hag (fun _ h => h)
      obtain ⟨b, off, rfl, hbK, c0, c1, c2, c3⟩ := EvS.at_ hev hlt
      have hop := noteE_at (s := s) hlt
      have hbd := hide (hbad.out j hlt hall.out)
      have hstep : noteE s l j = 0 → ∀ k, k < j + 1 → noteE s l k = 0 := fun g k hk => by
        by_cases hkj : k = j
        · subst hkj; exact g
        · exact hall.out k (by omega)
      have hsk := hide (hskip.out j hlt)
      have hpt := hide (hput.out j hlt)
      have hsm := hide (hsome.out j)
      generalize noteE s l j = oe at *
      generalize l[j] = e at *
      have kT2 := kT'.alloc (.cells #[.int .i64 e.kind, .int .i64 e.sess, .int .i64 e.key, .int .i64 e.val] 56)
      have kW2 := kW'.alloc (.cells #[.int .i64 e.kind, .int .i64 e.sess, .int .i64 e.key, .int .i64 e.val] 56)
      have hmlt := hmf.lt
      have hm2 : MapF encW (wr.alloc (.cells #[.int .i64 e.kind, .int .i64 e.sess, .int .i64 e.key, .int .i64 e.val] 56)) gm (noted B (p, q) l j) := hmf.agree (Below.heap_alloc _ _ _ hmlt)
      have hb2 := hb.alloc (by omega) (.cells #[.int .i64 e.kind, .int .i64 e.sess, .int .i64 e.key, .int .i64 e.val] 56)
      have hag2 := hag.trans (Agree.alloc (K := fun b => b < w.heap.size ∧ b ≠ gm) (w := wr) (fun b hb => by omega) (.cells #[.int .i64 e.kind, .int .i64 e.sess, .int .i64 e.key, .int .i64 e.val] 56))
      have kE : Blk (wr.alloc (.cells #[.int .i64 e.kind, .int .i64 e.sess, .int .i64 e.key, .int .i64 e.val] 56)) wr.heap.size 56 _ := Blk.new _ _ _
      clear hall hev hmf kT' kW' hb hag
      by_cases hk : e.kind = 2
      · rw [if_neg (by simp [hk])] at hop
        have hkb : (e.kind != 2) = false := by simpa using hk
        have hlq : ∃ la lb : Int, valOr encW (.agg #[.int .i64 0, .int .i64 0]) (noted B (p, q) l j ⟨e.key, e.val⟩) = .agg #[.int .i64 la, .int .i64 lb] := by
          cases noted B (p, q) l j ⟨e.key, e.val⟩ with
          | none => exact ⟨0, 0, rfl⟩
          | some v => exact ⟨v.1, v.2, rfl⟩
        obtain ⟨la, lb, hlv⟩ := hlq
        have hm3 : MapF encW ((wr.alloc (.cells #[.int .i64 e.kind, .int .i64 e.sess, .int .i64 e.key, .int .i64 e.val] 56)).alloc (.cells #[.int .i64 e.key, .int .i64 e.val] 91)) gm (noted B (p, q) l j) := hm2.agree (Below.heap_alloc _ _ _ hm2.lt)
        have hm4 : MapF encW (((wr.alloc (.cells #[.int .i64 e.kind, .int .i64 e.sess, .int .i64 e.key, .int .i64 e.val] 56)).alloc (.cells #[.int .i64 e.key, .int .i64 e.val] 91)).alloc (.cells #[.int .i64 la, .int .i64 lb] 81)) gm (noted B (p, q) l j) := hm3.agree (Below.heap_alloc _ _ _ hm3.lt)
        have hlook : (Instr.lookup 79 (.map (some gm)) (.agg #[.int .i64 e.key, .int .i64 e.val]) true).run Tryz.prog ((wr.alloc (.cells #[.int .i64 e.kind, .int .i64 e.sess, .int .i64 e.key, .int .i64 e.val] 56)).alloc (.cells #[.int .i64 e.key, .int .i64 e.val] 91)) = .ok (.tuple #[.agg #[.int .i64 la, .int .i64 lb], .bool (noted B (p, q) l j ⟨e.key, e.val⟩).isSome]) ((wr.alloc (.cells #[.int .i64 e.kind, .int .i64 e.sess, .int .i64 e.key, .int .i64 e.val] 56)).alloc (.cells #[.int .i64 e.key, .int .i64 e.val] 91)) := by
          have := MapF.lookup itemKey Tryz.underlying79 zeroW hm3 (⟨e.key, e.val⟩ : It)
          rw [hlv] at this
          exact this
        obtain ⟨es, cl, hupd, hm5⟩ := hm4.update itemKey Tryz.underlying79 (⟨e.key, e.val⟩ : It) (p, q)
        replace hupd : (Instr.mapUpdate 79 (.map (some gm)) (.agg #[.int .i64 e.key, .int .i64 e.val]) (.agg #[.int .i64 p, .int .i64 q])).run Tryz.prog (((wr.alloc (.cells #[.int .i64 e.kind, .int .i64 e.sess, .int .i64 e.key, .int .i64 e.val] 56)).alloc (.cells #[.int .i64 e.key, .int .i64 e.val] 91)).alloc (.cells #[.int .i64 la, .int .i64 lb] 81)) = .ok () (ChangeMaps.setBlock (((wr.alloc (.cells #[.int .i64 e.kind, .int .i64 e.sess, .int .i64 e.key, .int .i64 e.val] 56)).alloc (.cells #[.int .i64 e.key, .int .i64 e.val] 91)).alloc (.cells #[.int .i64 la, .int .i64 lb] 81)) gm (.map es cl)) := hupd
        have kT3 : Blk (((wr.alloc (.cells #[.int .i64 e.kind, .int .i64 e.sess, .int .i64 e.key, .int .i64 e.val] 56)).alloc (.cells #[.int .i64 e.key, .int .i64 e.val] 91)).alloc (.cells #[.int .i64 la, .int .i64 lb] 81)) _ _ _ := (kT2.alloc (.cells #[.int .i64 e.key, .int .i64 e.val] 91)).alloc (.cells #[.int .i64 la, .int .i64 lb] 81)
        have kW3 : Blk (((wr.alloc (.cells #[.int .i64 e.kind, .int .i64 e.sess, .int .i64 e.key, .int .i64 e.val] 56)).alloc (.cells #[.int .i64 e.key, .int .i64 e.val] 91)).alloc (.cells #[.int .i64 la, .int .i64 lb] 81)) _ _ _ := (kW2.alloc (.cells #[.int .i64 e.key, .int .i64 e.val] 91)).alloc (.cells #[.int .i64 la, .int .i64 lb] 81)
        have w0 := kW3.cell 0
        have w1 := kW3.cell 1
        simp only [List.getElem?_toArray, List.getElem?_cons_zero, List.getElem?_cons_succ] at w0 w1
        have hb4 : Below gm w (((wr.alloc (.cells #[.int .i64 e.kind, .int .i64 e.sess, .int .i64 e.key, .int .i64 e.val] 56)).alloc (.cells #[.int .i64 e.key, .int .i64 e.val] 91)).alloc (.cells #[.int .i64 la, .int .i64 lb] 81)) := (hb2.alloc (by have := hb2.size; omega) (.cells #[.int .i64 e.key, .int .i64 e.val] 91)).alloc (by have := hb2.size; simp; omega) (.cells #[.int .i64 la, .int .i64 lb] 81)
        have hag4 : Agree (fun b => b < w.heap.size ∧ b ≠ gm) w (((wr.alloc (.cells #[.int .i64 e.kind, .int .i64 e.sess, .int .i64 e.key, .int .i64 e.val] 56)).alloc (.cells #[.int .i64 e.key, .int .i64 e.val] 91)).alloc (.cells #[.int .i64 la, .int .i64 lb] 81)) := (hag2.trans (Agree.alloc (K := fun b => b < w.heap.size ∧ b ≠ gm) (fun b hb => by have := hb.1; simp; omega) (.cells #[.int .i64 e.key, .int .i64 e.val] 91))).trans (Agree.alloc (K := fun b => b < w.heap.size ∧ b ≠ gm) (fun b hb => by have := hb.1; simp; omega) (.cells #[.int .i64 la, .int .i64 lb] 81))
        rw [hsm.out] at hlook
        have hm6 := hm5.same fun x => (hpt.out hk x).symm
        have nT := hide (show w.heap.size ≠ gm by omega)
        have nW := hide (show w.heap.size + 1 ≠ gm by omega)
        clear hm2 hm3 hm4 hm5 hpt hsk hsm hlv kT2 kW2 hb2 hag2
        by_cases hv : e.val = 0
        · rw [if_pos hv] at hop
          have hvb : (e.val == 0) = true := by simpa using hv
          have hr := hbd.out (by rw [hop]; decide)
          rw [hop] at hr
          have hr0 := hide hr
          clear hbd hstep hop hk hv hr hupd hm6
          go_wp2
          go_ret
          exact ⟨by rw [hr0.out]; rfl, fun h => (by rw [hr0.out] at h; cases h), hb4, hag4⟩
        · rw [if_neg hv] at hop
          have hvb : (e.val == 0) = false := by simpa using hv
          by_cases hs : 0 < Go.Inq.wr l j ⟨e.key, e.val⟩ + s ⟨e.key, e.val⟩
          · rw [if_pos hs] at hop
            rw [decide_eq_true hs] at hlook
            have hr := hbd.out (by rw [hop]; decide)
            rw [hop] at hr
            have hr0 := hide hr
            clear hbd hstep hop hk hv hr hupd hm6 hs
            go_wp2
            go_ret
            exact ⟨by rw [hr0.out]; rfl, fun h => (by rw [hr0.out] at h; cases h), hb4, hag4⟩
          · rw [if_neg hs] at hop
            rw [decide_eq_false hs] at hlook
            have hst := hide (hstep hop)
            clear hbd hstep hop hk hv hs
            go_wp2
            go_roundw
            case rel =>
              refine ⟨j + 1, by omega, by go_num, setBlock_blk kT3 nT.out, setBlock_blk kW3 nW.out, hm6, hst, setBlock_below hb4 (Nat.le_refl _) _, ?_, by rw [setBlock_size]; simp; omega⟩
              exact hag4.trans fun b hb => setBlock_heap _ _ _ _ hb.2
            case measure => simp [intOf]; omega
      · rw [if_pos hk] at hop
        have hkb : (e.kind != 2) = true := by simpa using hk
        have hst := hide (hstep hop)
        have hm3 := hm2.same fun x => (hsk.out hk x).symm
        clear hbd hstep hop hk hsk hpt hsm hm2
        go_wp2
        go_roundw
        case rel => exact ⟨j + 1, by omega, by go_num, kT2, kW2, hm3, hst, hb2, hag2, by simp; omega⟩
        case measure => simp [intOf]; omega
    · have : j = l.length := by omega
      subst this
      have hr := hide (hgood.out hall.out)
      go_wp2
      go_ret
      exact ⟨by rw [hr.out]; rfl, fun _ => hmf, hb, hag⟩
end Go.Proofs.YtphcebgpllecjaaGreatDoor
