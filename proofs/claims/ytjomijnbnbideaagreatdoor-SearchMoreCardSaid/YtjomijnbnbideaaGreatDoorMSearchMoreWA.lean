/-
  Walks: SearchMore.
-/
import Derived.Test.YtjomijnbnbideaaGreatDoorM35
import Derived.Test.YtjomijnbnbideaaGreatDoorM19
import Derived.Test.YtjomijnbnbideaaGreatDoorM02
set_option linter.unusedVariables false
set_option linter.unusedSimpArgs false
namespace Go.Proofs.YtjomijnbnbideaaGreatDoor
open Go.RowKit Go.Inq
set_option maxHeartbeats 8000000
attribute [local go_sem ↓] Go.wp_at_zero Go.wp_at_succ

def FctK (K1 : Nat → Prop) (w : World) (_ : Nat → Prop) (cs : List Value) (f : Fct) : Prop := FctR w K1 cs f
theorem sizeM_few {p : List Mk} (h : ∀ m ∈ p, m.done.length ≤ 80) : sizeM p ≤ 81 * p.length := by
  unfold sizeM
  induction p with
  | nil => simp
  | cons m p ih =>
    have h1 := h m (by simp)
    have h2 := ih fun x hx => h x (by simp [hx])
    simp only [List.map_cons, List.sum_cons, List.length_cons]
    omega
theorem Few31.fitM {H : List Txn} {L : List Fct} {path : List Mk} {n : Nat} (h : Few31 H L path n) : FitM path :=
  ⟨by have := sizeM_few h.done; have := h.len; omega, fun m hm x hx => by have := h.ncyc m hm x hx; omega⟩
theorem Few31.fitF {H : List Txn} {L : List Fct} {path : List Mk} {n : Nat} (h : Few31 H L path n) : FitF L :=
  ⟨by have := h.facts; omega, fun f hf => by have := h.fcyc f hf; omega⟩
theorem fctS_more {w w' : World} {base : Nat} {v : Value} {l : List Fct} (h : OwnR 7 (FctK (fun b => b < w.heap.size)) w' (fun _ => True) base 51 v l) (hs : w.heap.size ≤ w'.heap.size) : FctS w' (Old w') v l := by
  obtain ⟨ys, h1, h2, h3⟩ := h
  have h4 : OwnR 7 FctR w' (Old w') base 51 v l := ⟨ys, h1, h2, fun i cs x e1 e2 => ⟨(h3 i cs x e1 e2).1, FctR.stab _ _ _ _ _ _ (h3 i cs x e1 e2).2 (Agree.refl _ _) fun b (hb : b < w.heap.size) => Nat.lt_of_lt_of_le hb hs⟩⟩
  exact h4.sl fun g hg => (h1.lt g hg).2
set_option maxRecDepth 100000 in
theorem searchMore_any (A : Option Addr) (c : Nat) (H : List Txn) (level : Int) (Al : Option Addr) (cl : Nat) (L : List Fct) (Ap : Option Addr) (cp : Nat) (path : List Mk) (f : Fct) (Af : Option Addr) (cf : Nat) (w : World) (h : TxnS w (Old w) (.slice A H.length c) H) (hn : H.length ≤ maxLen) (hns : ∀ t ∈ H, t.writes.length ≤ maxLen ∧ t.reads.length ≤ maxLen)
    (hL : FctS w (Old w) (.slice Al L.length cl) L) (hL1 : L.length ≤ maxLen) (hP : MkS w (Old w) (.slice Ap path.length cp) path) (hP1 : path.length ≤ maxLen) (hf : IntS w (Old w) (.slice Af f.cyc.length cf) f.cyc) (hTB : TabB w) :
    Calls Tryz.prog 13 #[.agg #[.slice A H.length c, .int .i64 level, .slice Al L.length cl, .slice Ap path.length cp], .agg #[.int .i64 f.c.key, .int .i64 f.c.a, .int .i64 f.c.b, .int .i64 f.kind, .int .i64 f.i, .int .i64 f.j, .slice Af f.cyc.length cf]] w fun e w' => e = .returned (.bool true) ∧ Below w.heap.size w w' := by
  obtain ⟨ifa, hifa, hifa1, hifa2, hifa3⟩ := info_parts infoFct
  obtain ⟨W0, hW0⟩ : ∃ W0, (w.alloc (.cells #[.slice A H.length c, .int .i64 level, .slice Al L.length cl, .slice Ap path.length cp] 82)).alloc (.cells #[.int .i64 f.c.key, .int .i64 f.c.a, .int .i64 f.c.b, .int .i64 f.kind, .int .i64 f.i, .int .i64 f.j, .slice Af f.cyc.length cf] 51) = W0 := ⟨_, rfl⟩
  have hA := below_two hW0
  have kx := Blk.two1 hW0
  have kf := Blk.two2 hW0
  have haw := hide (awake31_any W0 (hTB.below hA))
  have hfe := hide (fun W (hb : Below w.heap.size w W) => few31_any A c H level Al cl L Ap cp path 8 W (h.below hb) hn hns (hL.below hb) hL1 (hP.below hb) hP1)
  have hrt := hide (fun (g : Few31 H L path 8) W (hb : Below w.heap.size w W) => right31_any A c H level Al cl L Ap cp path W (h.below hb) (fewN_small (by omega) g.hist) (hL.below hb) g.fitF (hP.below hb) g.fitM)
  have hri := hide (fun (g : Few31 H L path 8) k (hk : k ≤ path.length) W (hb : Below w.heap.size w W) => (by
    have e : (path.take k).length = k := by rw [List.length_take]; omega
    have := right31_any A c H level Al cl L Ap cp (path.take k) W (h.below hb) (fewN_small (by omega) g.hist) (hL.below hb) g.fitF (by rw [e]; exact (hP.below hb).take hk) (g.fitM.take k)
    rw [e] at this
    exact this : Calls Tryz.prog 49 #[.agg #[.slice A H.length c], .int .i64 level, .slice Al L.length cl, .slice Ap k cp] W fun e w' => e = .returned (.bool (rightP H level L (path.take k))) ∧ Below W.heap.size W w'))
  have hrm := hide (fun (g : Few31 H L path 8) (gf : f.cyc.length ≤ 40) Am cm W (hb : Below w.heap.size w W) (hM : FctS W (Old W) (.slice Am (L ++ [f]).length cm) (L ++ [f])) => right31_any A c H level Am cm (L ++ [f]) Ap cp path W (h.below hb) (fewN_small (by omega) g.hist) hM ⟨by have := g.facts; rw [List.length_append, List.length_singleton]; omega, fun x hx => by
    rw [List.mem_append, List.mem_singleton] at hx
    rcases hx with hx | rfl
    · have := g.fcyc x hx; omega
    · omega⟩ (hP.below hb) g.fitM)
  have hho := hide (fun (g : Few31 H L path 8) (gf : f.cyc.length ≤ 40) W (hb : Below w.heap.size w W) => holds22_all A c H level Al cl L f Af cf W (h.below hb) (fewN_small (by omega) g.hist) (hL.below hb) (by have := g.facts; omega) (hf.keep (Agree.below hb fun b h => h) fun b (h : b < w.heap.size) => Nat.lt_of_lt_of_le h hb.size) (by omega))
  have hcp : path.length ≤ cp := hP.cap
  have hfr := hide (fun (g : rightP H level L path = true) i => path_front g i)
  have hmo := hide (fun (g : rightP H level L path = true) (h20 : L.length + path.length + 1 < 20000) => path_more (f := f) g h20)
  have hLK : Hid (∀ W, Below w.heap.size w W → SlR 7 (FctK (fun b => b < w.heap.size)) W (fun _ => True) (.slice Al L.length cl) L) := hide fun W hb => by
    obtain ⟨A', c', xs, e1, e2, e3, e4, e5⟩ := FctS.keep (K' := fun b => b < w.heap.size) hL (Agree.below hb fun b h => h) fun b h => h
    refine ⟨A', c', xs, e1, e2, e3, e4, fun h0 => ?_⟩
    obtain ⟨b, off, q1, q2, q3⟩ := e5 h0
    exact ⟨b, off, q1, trivial, q3⟩
  have hfK : Hid (∀ W, Below w.heap.size w W → FctK (fun b => b < w.heap.size) W (fun _ => True) [.int .i64 f.c.key, .int .i64 f.c.a, .int .i64 f.c.b, .int .i64 f.kind, .int .i64 f.i, .int .i64 f.j, .slice Af f.cyc.length cf] f) := hide fun W hb => ⟨Af, cf, rfl, hf.keep (Agree.below hb fun b h => h) fun b h => h⟩
  clear h hn hns hL hL1 hP hP1 hf hTB
  obtain ⟨fc, fd, fi, fj, fy⟩ := f
  obtain ⟨fk, fa, fb⟩ := fc
  dsimp only at *
  go_enter Tryz.func13, Tryz.ntmps13
  go_wp2_with fail
  clear hW0
  refine haw.out.mono ?_
  rintro e w1 ⟨rfl, hb1⟩
  have hB1 := hA.trans (hb1.mono hA.size)
  replace kx := kx.below hb1 kx.lt
  replace kf := kf.below hb1 kf.lt
  have hfe1 := hide (hfe.out w1 hB1)
  clear haw hb1 hA hfe
  have a0 := Blk.n0 kx
  have a1 := Blk.n1 kx
  have a2 := Blk.n2 kx
  have a3 := Blk.n3 kx
  go_wp2_with fail
  refine hfe1.out.mono ?_
  rintro e w2 ⟨rfl, hb2⟩
  have hB2 := hB1.trans (hb2.mono hB1.size)
  replace kx := kx.below hb2 kx.lt
  replace kf := kf.below hb2 kf.lt
  clear hfe1 hb2 hB1 a0 a1 a2 a3
  obtain ⟨qf, hqf⟩ : ∃ qf, few31B H L path 8 = qf := ⟨_, rfl⟩
  rw [hqf]
  have a0 := Blk.n0 kx
  have a1 := Blk.n1 kx
  have a2 := Blk.n2 kx
  have a3 := Blk.n3 kx
  have b6 := Blk.n6 kf
  cases qf with
  | false =>
    clear hrt hri hrm hho hfr hmo hLK hfK hqf
    go_wp2
    go_ret
    exact ⟨rfl, hB2⟩
  | true =>
    have hfw := few31_iff.1 hqf
    clear hqf
    by_cases hfl : fy.length ≤ 40
    · have g1 : decide ((fy.length : Int) > 40) = false := decide_eq_false (by omega)
      have g2 : decide (40 < fy.length) = false := decide_eq_false (by omega)
      have hrt1 := hide (hrt.out hfw w2 hB2)
      have hri1 := hide (hri.out hfw)
      have hrm1 := hide (hrm.out hfw hfl)
      have hho1 := hide (hho.out hfw hfl)
      have hll := hfw.facts
      have hpl := hfw.len
      obtain ⟨rp, hrp⟩ : ∃ rp, rightP H level L path = rp := ⟨_, rfl⟩
      rw [hrp] at hrt1
      replace hrp := hide hrp
      replace hfw := hide hfw
      clear hrt hri hrm hho
      go_wp2_with fail
      refine hrt1.out.mono ?_
      rintro e w3 ⟨rfl, hb3⟩
      have hB3 := hB2.trans (hb3.mono hB2.size)
      replace kx := kx.below hb3 kx.lt
      replace kf := kf.below hb3 kf.lt
      clear hrt1 hb3 hB2 a0 a1 a2 a3 b6
      cases rp with
      | false =>
        clear hri1 hrm1 hho1 hfr hmo hLK hfK
        go_wp2
        go_ret
        exact ⟨rfl, hB3⟩
      | true =>
        have hfr1 := hide (hfr.out hrp.out)
        have hmo1 := hide (hmo.out hrp.out (by omega))
        clear hfr hmo
        go_wp2_with fail
        go_loopw [7] (fun s7 wr => ∃ i : Nat, i ≤ path.length ∧ s7 = .int .i64 (i : Int) ∧ Blk wr w.heap.size 82 #[.slice A H.length c, .int .i64 level, .slice Al L.length cl, .slice Ap path.length cp] ∧ Blk wr (w.heap.size + 1) 51 #[.int .i64 fk, .int .i64 fa, .int .i64 fb, .int .i64 fd, .int .i64 fi, .int .i64 fj, .slice Af fy.length cf] ∧ Below w.heap.size w wr) (fun s7 _ => path.length - (intOf s7).toNat)
        case atStart => exact ⟨0, by omega, by go_num, kx, kf, hB3⟩
        case round =>
          clear kx kf hB3
          obtain ⟨Wo, rfl⟩ : ∃ Wo, Wo = wr := ⟨_, rfl⟩
          obtain ⟨i, hi, rfl, kx, kf, hB⟩ := hrel
          have hi0 : (0 : Int) ≤ (i : Int) := Int.natCast_nonneg _
          have hxl := kx.lt
          have a0 := Blk.n0 kx
          have a1 := Blk.n1 kx
          have a2 := Blk.n2 kx
          have a3 := Blk.n3 kx
          by_cases hlt : i < path.length
          · have hi1 : (i : Int) < (path.length : Int) := by omega
            have hi2 : (i : Int) ≤ (cp : Int) := by omega
            have hcal := hide (fun W (hb : Below Wo.heap.size Wo W) => (by
              have := hri1.out i hi W (hB.trans (hb.mono hB.size))
              rw [hfr1.out i] at this
              exact this : Calls Tryz.prog 49 #[.agg #[.slice A H.length c], .int .i64 level, .slice Al L.length cl, .slice Ap i cp] W fun e w' => e = .returned (.bool true) ∧ Below W.heap.size W w'))
            have hsz := hB.size
            clear hri1 hrm1 hho1 hfr1 hmo1 hLK hfK
            go_upto_region 10 with fail
            refine wp_region_float (fun W => Below Wo.heap.size Wo W) (by kernel_rfl) (by kernel_rfl) (Below.refl _ _).drew ?_
            refine ⟨.pointer (some ⟨w.heap.size, 0, none⟩), fun W hW => (by go_wp2), ?_⟩
            refine ⟨.agg #[.slice A H.length c], fun W hW => (by have v0 := (hW.cell (p := ⟨w.heap.size, 0, none⟩) hxl).trans a0; go_wp2), ?_⟩
            refine ⟨.pointer (some ⟨w.heap.size, 1, none⟩), fun W hW => (by go_wp2), ?_⟩
            refine ⟨.int .i64 level, fun W hW => (by have v0 := (hW.cell (p := ⟨w.heap.size, 1, none⟩) hxl).trans a1; go_wp2), ?_⟩
            refine ⟨.pointer (some ⟨w.heap.size, 2, none⟩), fun W hW => (by go_wp2), ?_⟩
            refine ⟨.slice Al L.length cl, fun W hW => (by have v0 := (hW.cell (p := ⟨w.heap.size, 2, none⟩) hxl).trans a2; go_wp2), ?_⟩
            refine ⟨.pointer (some ⟨w.heap.size, 3, none⟩), fun W hW => (by go_wp2), ?_⟩
            refine ⟨.slice Ap path.length cp, fun W hW => (by have v0 := (hW.cell (p := ⟨w.heap.size, 3, none⟩) hxl).trans a3; go_wp2), ?_⟩
            refine ⟨.int .i64 (i : Int), fun W hW => (by go_wp2), ?_⟩
            refine ⟨.slice Ap i cp, fun W hW => (by go_wp2), ?_⟩
            refine ⟨.bool true, fun W hW => (by
              go_wp2_with fail
              refine (hcal.out W hW).mono ?_
              rintro e w' ⟨rfl, hb⟩
              go_wp2
              exact hW.trans (hb.mono hW.size)), ?_⟩
            refine ⟨.bool false, fun W hW => (by go_wp2), ?_⟩
            intro W5 hW5
            simp only [Act.put, sA, sZ, sS]
            have kx5 := kx.below hW5 hxl
            have kf5 := kf.below hW5 kf.lt
            have hB5 := hB.trans (hW5.mono hsz)
            clear hcal kx kf hB hW5 a0 a1 a2 a3
            go_wp2
            go_roundw
            case rel => exact ⟨i + 1, by omega, by go_num, kx5, kf5, hB5⟩
            case measure => simp [intOf]; omega
          · obtain rfl : i = path.length := by omega
            have hsz := hB.size
            have hSL := hide (hLK.out Wo hB)
            clear hri1 hfr1 hlt
            have hone : ∀ (w : World) (K1 K : Nat → Prop) (cs : List Value) (x : Fct), FctK K1 w K cs x → ∀ u ∈ cs, u.oneCell' = true := fun w K1 K cs x h => fct_one w K1 cs x h
            have hkeep : ∀ (w1 w2 : World) (cs : List Value) (x : Fct), Agree (fun b => b < w.heap.size) w1 w2 → FctK (fun b => b < w.heap.size) w1 (fun _ => True) cs x → FctK (fun b => b < w.heap.size) w2 (fun _ => True) cs x := fun w1 w2 cs x ha h => FctR.stab _ _ _ _ _ _ h ha fun _ h => h
            go_upto_region 14 with (at_builtin; go_loud (refine wpList_append_list (R := FctK (fun b => b < w.heap.size)) rfl (.tmp 53) (.tmp 55) 33 rfl w.heap.size 51 ifa _ 7 72 Tryz.underlying33 hifa hifa1 hifa2 hifa3 rfl (by decide) (.slice none 0 0) (fun _ => True) [] rfl (OwnR.nil _ _ _ _ _ _) (.slice Al L.length cl) L rfl hSL.out (fun cs x h => hone _ _ _ cs x h) (by unfold maxLen; simp; omega) (by simp; omega) hsz (fun w' hg cs x hx => hkeep _ _ cs x (Agree.grown hg (fun b hb => ⟨Nat.lt_of_lt_of_le hb hsz, fun e => by simp [Value.ownBlock] at e⟩)) hx) ?_); intro v5 w5 hO5 hg5 hat5)
            rw [List.nil_append] at hO5
            have kx5 := kx.grown hg5 (by simp [Value.ownBlock])
            have kf5 := kf.grown hg5 (by simp [Value.ownBlock])
            have hB5 := hB.grown hg5 hsz (fun k hk => by simp [Value.ownBlock] at hk)
            obtain ⟨A5, c5, rfl⟩ := OwnR.form hO5
            obtain ⟨Wb, hWb⟩ : ∃ Wb, w5.alloc (.cells #[.int .i64 fk, .int .i64 fa, .int .i64 fb, .int .i64 fd, .int .i64 fi, .int .i64 fj, .slice Af fy.length cf] 51) = Wb := ⟨_, rfl⟩
            have hbb := below_allocEq (Below.refl w5.heap.size w5) hWb (Nat.le_refl _)
            have hBb := hB5.trans (hbb.mono hB5.size)
            have hsb := hBb.size
            have kb := Blk.newEq hWb
            have hs1 : SlR 7 (FctK (fun b => b < w.heap.size)) Wb (fun _ => True) (.slice (some ⟨w5.heap.size, 0, none⟩) 1 1) [⟨⟨fk, fa, fb⟩, fd, fi, fj, fy⟩] := SlR.one kb rfl (hfK.out Wb hBb) trivial
            have hOb : OwnR 7 (FctK (fun b => b < w.heap.size)) Wb (fun _ => True) w.heap.size 51 (.slice A5 L.length c5) L := by
              obtain ⟨ys, q1, q2, q3⟩ := hO5
              exact ⟨ys, own_below q1 hbb (Nat.le_refl _), q2, fun i cs x e1 e2 => ⟨(q3 i cs x e1 e2).1, hkeep _ _ cs x (Agree.below hbb fun b (hb : b < w.heap.size) => by have := hB5.size; omega) (q3 i cs x e1 e2).2⟩⟩
            have kxb := kx5.below hbb kx5.lt
            have kfb := kf5.below hbb kf5.lt
            have hat : ∀ g, (Value.slice A5 L.length c5).ownBlock = some g → w.heap.size ≤ g ∧ g ≠ w.heap.size ∧ g ≠ w.heap.size + 1 := fun g hg => by
              obtain ⟨cs, hb⟩ := OwnR.blk hOb hg
              have h1 := (OwnR.lt hOb g hg).1
              rcases hat5 with e | e
              · rw [e] at hg; simp [Value.ownBlock] at hg
              · rw [e] at hg
                injection hg with hg
                have h2 := kf.lt
                exact ⟨h1, by omega, by omega⟩
            have b0 := Blk.n0 kf5
            have b1 := Blk.n1 kf5
            have b2 := Blk.n2 kf5
            have b3 := Blk.n3 kf5
            have b4 := Blk.n4 kf5
            have b5 := Blk.n5 kf5
            have b6 := Blk.n6 kf5
            replace hOb := hide hOb
            replace hs1 := hide hs1
            replace hat := hide hat
            clear hO5 hg5 hat5 kx kf hB hSL a0 a1 a2 a3 kb hbb
            go_upto_region 15 with (at_builtin; go_loud (refine wpList_append_list (R := FctK (fun b => b < w.heap.size)) rfl (.tmp 57) (.tmp 59) 33 rfl w.heap.size 51 ifa _ 7 72 Tryz.underlying33 hifa hifa1 hifa2 hifa3 rfl (by decide) (.slice A5 L.length c5) (fun _ => True) L rfl hOb.out (.slice (some ⟨w5.heap.size, 0, none⟩) 1 1) [⟨⟨fk, fa, fb⟩, fd, fi, fj, fy⟩] rfl hs1.out (fun cs x h => hone _ _ _ cs x h) (by unfold maxLen; simp; omega) (by simp; omega) hsb (fun w' hg cs x hx => hkeep _ _ cs x (Agree.grown hg (fun b (hb : b < w.heap.size) => ⟨Nat.lt_of_lt_of_le hb hsb, fun e => by have := (hat.out b e.symm).1; omega⟩)) hx) ?_); intro v6 w6 hO6 hg6 hat6)
            have kx6 := kxb.grown hg6 (fun e => (hat.out _ e.symm).2.1 rfl)
            have kf6 := kfb.grown hg6 (fun e => (hat.out _ e.symm).2.2 rfl)
            have hB6 := hBb.grown hg6 hsb (fun k hk => (hat.out k hk).1)
            have hM6 := fctS_more hO6 hB6.size
            obtain ⟨A6, c6, rfl⟩ := OwnR.form hO6
            have hho2 := hide (hho1.out w6 hB6)
            have hM7 := hide (fun W (hb : Below w6.heap.size w6 W) => (by
              have := hrm1.out A6 c6 W (hB6.trans (hb.mono hB6.size)) (hM6.below hb)
              rw [hmo1.out, List.length_append, List.length_singleton] at this
              exact this))
            clear hho1 hrm1 hmo1 hO6 hg6 hat6 hM6 hOb hs1 hat kx5 kf5 kxb kfb hLK hfK b0 b1 b2 b3 b4 b5 b6 hBb hB5
            have a0 := Blk.n0 kx6
            have a1 := Blk.n1 kx6
            have a2 := Blk.n2 kx6
            have a3 := Blk.n3 kx6
            have b0 := Blk.n0 kf6
            have b1 := Blk.n1 kf6
            have b2 := Blk.n2 kf6
            have b3 := Blk.n3 kf6
            have b4 := Blk.n4 kf6
            have b5 := Blk.n5 kf6
            have b6 := Blk.n6 kf6
            obtain ⟨qh, hqh⟩ : ∃ qh, holdsB H level L ⟨⟨fk, fa, fb⟩, fd, fi, fj, fy⟩ = qh := ⟨_, rfl⟩
            rw [hqh] at hho2 hM7
            clear hqh
            go_wp2_with fail
            refine hho2.out.mono ?_
            rintro e w7 ⟨rfl, hb7⟩
            have hB7 := hB6.trans (hb7.mono hB6.size)
            have kx7 := kx6.below hb7 kx6.lt
            have hM8 := hide (hM7.out w7 hb7)
            clear hho2 hM7 kf6 kx6 hb7 hB6 a0 a1 a2 a3 b0 b1 b2 b3 b4 b5 b6
            have a0 := Blk.n0 kx7
            have a1 := Blk.n1 kx7
            have a2 := Blk.n2 kx7
            have a3 := Blk.n3 kx7
            cases qh with
            | false =>
              go_wp2_with fail
              refine hM8.out.mono ?_
              rintro e w8 ⟨rfl, hb8⟩
              go_wp2
              go_ret
              exact ⟨rfl, hB7.trans (hb8.mono hB7.size)⟩
            | true =>
              go_wp2_with fail
              refine hM8.out.mono ?_
              rintro e w8 ⟨rfl, hb8⟩
              go_wp2
              go_ret
              exact ⟨rfl, hB7.trans (hb8.mono hB7.size)⟩
    · have g1 : decide ((fy.length : Int) > 40) = true := decide_eq_true (by omega)
      have g2 : decide (40 < fy.length) = true := decide_eq_true (by omega)
      clear hrt hri hrm hho hfr hmo hLK hfK hfl
      go_wp2
      go_ret
      exact ⟨rfl, hB2⟩
end Go.Proofs.YtjomijnbnbideaaGreatDoor
