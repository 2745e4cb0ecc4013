/-
  Walks: the reference of layer 7: unlike.
-/
import Derived.Test.YtapkbinlhmddiaaSrc07M
import Derived.Test.YtapkbinlhmddiaaFloat
set_option linter.unusedVariables false
set_option linter.unusedSimpArgs false
namespace Go.Proofs.Ytapkbinlhmddiaa
open Go.RowKit Go.Inq
set_option maxHeartbeats 4000000
attribute [local go_sem ↓] Go.wp_at_zero Go.wp_at_succ

/-- Transactions that are few, and short. -/
def SmallT (l : List Tx) : Prop := l.length ≤ 1000 ∧ ∀ t ∈ l, t.ops.length ≤ 1000
theorem sumW_le {l : List Tx} (h : ∀ t ∈ l, t.ops.length ≤ 1000) (x : It) : ∀ n, n ≤ l.length → sumW l n x ≤ n * 1000
  | 0, _ => Nat.zero_le _
  | n + 1, hn => by
    have h1 := sumW_le h x n (by omega)
    have h2 := h _ (List.getElem_mem (show n < l.length by omega))
    have h3 := wr_le (l[n]'(by omega)).ops (l[n]'(by omega)).ops.length x
    rw [sumW_step (by omega)]
    unfold wrT
    omega
theorem opE_at {l : List Tx} {i : Nat} {ops : List Ev} {j : Nat} (hj : j < ops.length) : opE l i ops j = if ops[j].kind ≠ 2 then 0 else if ops[j].val = 0 then 7 else if 0 < wr ops j ⟨ops[j].key, ops[j].val⟩ + sumW l i ⟨ops[j].key, ops[j].val⟩ then 8 else 0 := by
  unfold opE
  rw [List.getElem?_eq_getElem hj]
theorem unlike_bad {l : List Tx} {i : Nat} (hi : i < l.length) {j : Nat} (hj : j < l[i].ops.length) (hall : ∀ k, k < j → opE l i l[i].ops k = 0) (hb : opE l i l[i].ops j ≠ 0) : unlikeR l i = opE l i l[i].ops j := by
  unfold unlikeR
  rw [List.getElem?_eq_getElem hi]
  dsimp only
  rw [firstN_some hj hall hb]
theorem unlike_good {l : List Tx} {i : Nat} (hi : i < l.length) (hall : ∀ k, k < l[i].ops.length → opE l i l[i].ops k = 0) : unlikeR l i = 0 := by
  unfold unlikeR
  rw [List.getElem?_eq_getElem hi]
  dsimp only
  rw [firstN_none hall]

set_option maxRecDepth 100000 in
theorem unlike7_any (l : List Tx) (A : Option Addr) (c : Nat) (i : Nat) (w : World) (h : TxS w (Old w) (.slice A l.length c) l) (hi : i < l.length) (hs : SmallT l) :
    Calls Try.prog 19 #[.slice A l.length c, .int .i64 i] w fun e w' => e = .returned (.int .i64 (unlikeR l i)) ∧ Below w.heap.size w w' := by
  have hn := hs.1
  have hi1 : (0 : Int) ≤ (i : Int) := Int.natCast_nonneg _
  have hi2 : (i : Int) < (l.length : Int) := by omega
  have hsw := hide (fun x n hn => sumW_le hs.2 x n hn)
  have hops := hs.2 _ (List.getElem_mem hi)
  have hbad := hide (fun j => unlike_bad (l := l) hi (j := j))
  have hgood := hide (unlike_good (l := l) hi)
  have hsm := hide hs.2
  clear hs
  obtain ⟨b, off, A', c', rfl, hbK, u0, u1, u2, u3, hev⟩ := TxS.at_ h hi
  have hu0 := hide (show ∀ W, Below w.heap.size w W → W.cell? ⟨b, off + i * 4, none⟩ = some (.int .i64 l[i].sess) from fun W hW => (hW.cell (p := ⟨b, _, none⟩) hbK).trans u0)
  have hu1 := hide (show ∀ W, Below w.heap.size w W → W.cell? ⟨b, off + i * 4 + 1, none⟩ = some (.bool l[i].done) from fun W hW => (hW.cell (p := ⟨b, _, none⟩) hbK).trans u1)
  have hu2 := hide (show ∀ W, Below w.heap.size w W → W.cell? ⟨b, off + i * 4 + 2, none⟩ = some (.int .i64 l[i].first) from fun W hW => (hW.cell (p := ⟨b, _, none⟩) hbK).trans u2)
  have hu3 := hide (show ∀ W, Below w.heap.size w W → W.cell? ⟨b, off + i * 4 + 3, none⟩ = some (.slice A' l[i].ops.length c') from fun W hW => (hW.cell (p := ⟨b, _, none⟩) hbK).trans u3)
  have hwt := hide (fun (m : Nat) (x : It) (W : World) (hW : Below w.heap.size w W) (hm : m ≤ l[i].ops.length) => writes7_any l[i] A' c' m x W (EvS.keep hev (Agree.below hW fun _ h => h) (fun b hb => Nat.lt_of_lt_of_le hb hW.size)) hm (by omega))
  clear u0 u1 u2 u3
  generalize hti : l[i] = t at *
  obtain ⟨ts, td, tf, ops⟩ := t
  dsimp only at *
  go_enter Try.func19, Try.ntmps19
  go_wp2_with fail
  go_loopw [5, 6, 7, 8] (fun s5 _ _ _ wr => ∃ j : Nat, j ≤ ops.length ∧ s5 = .int .i64 j ∧ Hid (∀ k, k < j → opE l i ops k = 0) ∧ Below w.heap.size w wr) (fun s5 _ _ _ _ => ops.length - (intOf s5).toNat)
  case atStart => exact ⟨0, Nat.zero_le _, by go_num, fun k h => absurd h (by omega), Below.refl _ _⟩
  case round =>
    obtain ⟨j, hj, rfl, hall, hb⟩ := hrel
    have hj1 : (0 : Int) ≤ (j : Int) := Int.natCast_nonneg _
    have u3 := hu3.out wr hb
    by_cases hlt : j < ops.length
    · have hj2 : (j : Int) < (ops.length : Int) := by omega
      have hevW := EvS.keep hev (Agree.below hb fun _ h => h) (fun _ h => h)
      obtain ⟨bo, oo, rfl, hbo, c0, c1, c2, c3⟩ := EvS.at_ hevW hlt
      have hop := opE_at (l := l) (i := i) hlt
      have hbd := hide (fun hb => hbad.out j hlt hall.out hb)
      have hstep : opE l i ops j = 0 → ∀ k, k < j + 1 → opE l i ops k = 0 := fun g k hk => by
        by_cases hkj : k = j
        · subst hkj; exact g
        · exact hall.out k (by omega)
      have hwrj := hide (fun x => wr_le ops j x)
      generalize opE l i ops j = oe at *
      generalize ops[j] = e at *
      have kE : Blk (wr.alloc (.cells #[.int .i64 e.kind, .int .i64 e.sess, .int .i64 e.key, .int .i64 e.val] 45)) wr.heap.size 45 _ := Blk.new _ _ _
      have hb2 := hb.alloc hb.size (.cells #[.int .i64 e.kind, .int .i64 e.sess, .int .i64 e.key, .int .i64 e.val] 45)
      have hgE : w.heap.size ≤ wr.heap.size := hb.size
      clear hall hevW
      by_cases hk : e.kind = 2
      · rw [if_neg (by simp [hk])] at hop
        have hkb : (e.kind != 2) = false := by simpa using hk
        by_cases hv : e.val = 0
        · rw [if_pos hv] at hop
          have hvb : (e.val == 0) = true := by simpa using hv
          have hr := hbd.out (by rw [hop]; decide)
          rw [hop] at hr
          replace hr := hide hr
          clear hbd hstep hop hk hv
          go_wp2
          go_ret
          exact ⟨by rw [hr.out]; rfl, hb2⟩
        · rw [if_neg hv] at hop
          have hvb : (e.val == 0) = false := by simpa using hv
          clear hk hv
          go_wp2_with fail
          generalize wr.alloc (.cells #[.int .i64 e.kind, .int .i64 e.sess, .int .i64 e.key, .int .i64 e.val] 45) = W2 at *
          replace kE : Blk W2 wr.heap.size 45 _ := kE
          generalize wr.heap.size = gE at *
          have hW0 := hide (fun (W : World) (hW : Below W2.heap.size W2 W) => hb2.trans (hW.mono hb2.size))
          have hlenE := kE.lt
          refine wp_region_float (fun W => Below W2.heap.size W2 W) (by kernel_rfl) (by kernel_rfl) (Below.refl _ _).drew ?_
          refine ⟨.slice (some ⟨b, off, none⟩) l.length c, fun W hW => (by go_wp2), ?_⟩
          refine ⟨.int .i64 i, fun W hW => (by go_wp2), ?_⟩
          refine ⟨.pointer (some ⟨b, off + i * 4, none⟩), fun W hW => (by go_wp2), ?_⟩
          refine ⟨.agg #[.int .i64 ts, .bool td, .int .i64 tf, .slice (some ⟨bo, oo, none⟩) ops.length c'], fun W hW => (by have u0 := hu0.out W (hW0.out W hW); have u1 := hu1.out W (hW0.out W hW); have u2 := hu2.out W (hW0.out W hW); have u3 := hu3.out W (hW0.out W hW); go_wp2), ?_⟩
          refine ⟨.int .i64 j, fun W hW => (by go_wp2), ?_⟩
          refine ⟨.pointer (some ⟨gE, 2, none⟩), fun W hW => (by go_wp2), ?_⟩
          refine ⟨.int .i64 e.key, fun W hW => (by have e2 := (kE.below hW kE.lt).cell 2; have e3 := (kE.below hW kE.lt).cell 3; simp only [List.getElem?_toArray, List.getElem?_cons_zero, List.getElem?_cons_succ] at e2 e3; go_wp2), ?_⟩
          refine ⟨.pointer (some ⟨gE, 3, none⟩), fun W hW => (by go_wp2), ?_⟩
          refine ⟨.int .i64 e.val, fun W hW => (by have e2 := (kE.below hW kE.lt).cell 2; have e3 := (kE.below hW kE.lt).cell 3; simp only [List.getElem?_toArray, List.getElem?_cons_zero, List.getElem?_cons_succ] at e2 e3; go_wp2), ?_⟩
          refine ⟨.int .i64 (Go.Inq.wr ops j ⟨e.key, e.val⟩), fun W hW => (by go_wp2_with (go_at_call 29; refine (hwt.out j ⟨e.key, e.val⟩ W (hW0.out W hW) (by omega)).mono ?_; rintro e' w' ⟨rfl, hb'⟩; replace hW := hW.trans (hb'.mono hW.size))), ?_⟩
          refine ⟨.int .i64 (Go.Inq.wr ops j ⟨e.key, e.val⟩), fun W hW => (by go_wp2), ?_⟩
          intro w3 hw3
          simp only [Act.put]
          have hx0 := hide (show sumW l 0 ⟨e.key, e.val⟩ = 0 from rfl)
          go_wp2_with fail
          generalize hxe : (⟨e.key, e.val⟩ : It) = x at *
          have hxa : e.key = x.a := by rw [← hxe]
          have hxb : e.val = x.b := by rw [← hxe]
          rw [hxa, hxb] at kE
          clear hxa hxb hxe
          have hwj := hwrj.out x
          generalize Go.Inq.wr ops j x = n0 at *
          go_loopw [7, 8] (fun s7 s8 wq => ∃ k : Nat, k ≤ i ∧ s8 = .int .i64 k ∧ s7 = .int .i64 (n0 + sumW l k x : Nat) ∧ Below W2.heap.size W2 wq) (fun _ s8 _ => i - (intOf s8).toNat)
          case atStart => exact ⟨0, Nat.zero_le _, by go_num, by rw [hx0.out]; go_num, hw3⟩
          case round =>
            obtain ⟨k, hk, rfl, rfl, hq⟩ := hrel
            have hk1 : (0 : Int) ≤ (k : Int) := Int.natCast_nonneg _
            by_cases hlk : k < i
            · have hkl : k < l.length := by omega
              have hk2 : (k : Int) < (l.length : Int) := by omega
              have hk3 : (k : Int) < (i : Int) := by omega
              obtain ⟨b2, off2, A2, c2, hAA, hbK2, v0, v1, v2, v3, hev2⟩ := TxS.at_ h hkl
              injection hAA with hAA
              injection hAA with hA1 hA2
              subst hA1 hA2
              have hv0 := hide (show ∀ W, Below w.heap.size w W → W.cell? ⟨b, off + k * 4, none⟩ = some (.int .i64 l[k].sess) from fun W hW => (hW.cell (p := ⟨b, _, none⟩) hbK).trans v0)
              have hv1 := hide (show ∀ W, Below w.heap.size w W → W.cell? ⟨b, off + k * 4 + 1, none⟩ = some (.bool l[k].done) from fun W hW => (hW.cell (p := ⟨b, _, none⟩) hbK).trans v1)
              have hv2 := hide (show ∀ W, Below w.heap.size w W → W.cell? ⟨b, off + k * 4 + 2, none⟩ = some (.int .i64 l[k].first) from fun W hW => (hW.cell (p := ⟨b, _, none⟩) hbK).trans v2)
              have hv3 := hide (show ∀ W, Below w.heap.size w W → W.cell? ⟨b, off + k * 4 + 3, none⟩ = some (.slice A2 l[k].ops.length c2) from fun W hW => (hW.cell (p := ⟨b, _, none⟩) hbK).trans v3)
              have hlk2 := hsm.out _ (List.getElem_mem hkl)
              have hwk := hide (fun (W : World) (hW : Below w.heap.size w W) => writes7_any l[k] A2 c2 l[k].ops.length x W (EvS.keep hev2 (Agree.below hW fun _ h => h) (fun b hb => Nat.lt_of_lt_of_le hb hW.size)) (Nat.le_refl _) (by omega))
              have hst := sumW_step hkl x
              have hwl := wr_le l[k].ops l[k].ops.length x
              have hwT : wrT l[k] x = Go.Inq.wr l[k].ops l[k].ops.length x := rfl
              rw [hwT] at hst
              have hs1 := hsw.out x k (by omega)
              clear v0 v1 v2 v3 hev2 hbK2 hwT
              generalize l[k] = y at *
              obtain ⟨xs, xd, xf, xo⟩ := y
              dsimp only at *
              generalize Go.Inq.wr xo xo.length x = n2 at *
              have hs3 : n0 + sumW l (k + 1) x = n0 + sumW l k x + n2 := by omega
              replace hs3 := hide hs3
              have hs4 : n0 + sumW l k x ≤ 2000000 := by omega
              clear hst
              generalize n0 + sumW l k x = n1 at *
              have hs5 : n2 ≤ 1000 := by omega
              go_wp2_with fail
              have hqz := hq.size
              have hW1 := hide (fun (W : World) (hW : Below wr.heap.size wr W) => hq.trans (hW.mono hqz))
              refine wp_region_float (fun W => Below W2.heap.size W2 W) (by kernel_rfl) (by kernel_rfl) hq.drew ?_
              refine ⟨.int .i64 n1, fun W hW => (by go_wp2), ?_⟩
              refine ⟨.slice (some ⟨b, off, none⟩) l.length c, fun W hW => (by go_wp2), ?_⟩
              refine ⟨.int .i64 k, fun W hW => (by go_wp2), ?_⟩
              refine ⟨.pointer (some ⟨b, off + k * 4, none⟩), fun W hW => (by go_wp2), ?_⟩
              refine ⟨.agg #[.int .i64 xs, .bool xd, .int .i64 xf, .slice A2 xo.length c2], fun W hW => (by have v0 := hv0.out W (hW0.out W hW); have v1 := hv1.out W (hW0.out W hW); have v2 := hv2.out W (hW0.out W hW); have v3 := hv3.out W (hW0.out W hW); go_wp2), ?_⟩
              refine ⟨.slice (some ⟨b, off, none⟩) l.length c, fun W hW => (by go_wp2), ?_⟩
              refine ⟨.int .i64 k, fun W hW => (by go_wp2), ?_⟩
              refine ⟨.pointer (some ⟨b, off + k * 4, none⟩), fun W hW => (by go_wp2), ?_⟩
              refine ⟨.pointer (some ⟨b, off + k * 4 + 3, none⟩), fun W hW => (by go_wp2), ?_⟩
              refine ⟨.slice A2 xo.length c2, fun W hW => (by have v3 := hv3.out W (hW0.out W hW); go_wp2), ?_⟩
              refine ⟨.int .i64 xo.length, fun W hW => (by go_wp2), ?_⟩
              refine ⟨.pointer (some ⟨gE, 2, none⟩), fun W hW => (by go_wp2), ?_⟩
              refine ⟨.int .i64 x.a, fun W hW => (by have e2 := (kE.below hW kE.lt).cell 2; have e3 := (kE.below hW kE.lt).cell 3; simp only [List.getElem?_toArray, List.getElem?_cons_zero, List.getElem?_cons_succ] at e2 e3; go_wp2), ?_⟩
              refine ⟨.pointer (some ⟨gE, 3, none⟩), fun W hW => (by go_wp2), ?_⟩
              refine ⟨.int .i64 x.b, fun W hW => (by have e2 := (kE.below hW kE.lt).cell 2; have e3 := (kE.below hW kE.lt).cell 3; simp only [List.getElem?_toArray, List.getElem?_cons_zero, List.getElem?_cons_succ] at e2 e3; go_wp2), ?_⟩
              refine ⟨.int .i64 n2, fun W hW => (by go_wp2_with (go_at_call 29; refine (hwk.out W (hW0.out W hW)).mono ?_; rintro e' w' ⟨rfl, hb'⟩; replace hW := hW.trans (hb'.mono hW.size))), ?_⟩
              refine ⟨.int .i64 ((n1 : Int) + (n2 : Int)), fun W hW => (by go_wp2), ?_⟩
              refine ⟨.int .i64 ((n1 : Int) + (n2 : Int)), fun W hW => (by go_wp2), ?_⟩
              intro w4 hw4
              simp only [Act.put]
              go_wp2
              go_roundw
              case rel => exact ⟨k + 1, by omega, by go_num, by rw [hs3.out]; go_num, hw4⟩
              case measure => simp [intOf]; omega
            · have : k = i := by omega
              subst this
              have hb5 := hW0.out wr hq
              by_cases hpos : 0 < n0 + sumW l k x
              · rw [if_pos hpos] at hop
                have hr := hbd.out (by rw [hop]; decide)
                rw [hop] at hr
                replace hr := hide hr
                have hs1 := hsw.out x k (by omega)
                clear hbd hstep hop
                generalize n0 + sumW l k x = nn at *
                have hpz : (0 : Int) < (nn : Int) := by omega
                go_wp2
                go_ret
                exact ⟨by rw [hr.out]; rfl, hb5⟩
              · rw [if_neg hpos] at hop
                have hst := hide (hstep hop)
                have hz : n0 + sumW l k x = 0 := by omega
                clear hbd hstep hop hpos
                rw [hz]
                go_wp2
                go_roundw
                case rel => exact ⟨j + 1, by omega, by go_num, hst, hb5⟩
                case measure => simp [intOf]; omega
      · rw [if_pos hk] at hop
        have hkb : (e.kind != 2) = true := by simpa using hk
        have hst := hide (hstep hop)
        clear hbd hstep hop hk
        go_wp2
        go_roundw
        case rel => exact ⟨j + 1, by omega, by go_num, hst, hb2⟩
        case measure => simp [intOf]; omega
    · have : j = ops.length := by omega
      subst this
      have hr := hide (hgood.out hall.out)
      go_wp2
      go_ret
      exact ⟨by rw [hr.out]; rfl, hb⟩
end Go.Proofs.Ytapkbinlhmddiaa
