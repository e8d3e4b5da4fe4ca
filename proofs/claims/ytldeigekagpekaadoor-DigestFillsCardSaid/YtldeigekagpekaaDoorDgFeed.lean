/- What Add does, in plain words; append onto a slice that is full. -/
import Derived.Test.YtldeigekagpekaaDoorDgEat
import Derived.Deep.AppendSrc
import Derived.Deep.Upon
import Derived.Deep.RegionLawGrows
import Derived.Lib.SmallJoins
set_option linter.unusedSimpArgs false
set_option linter.unusedVariables false
namespace Go.Proofs.YtldeigekagpekaaDoor.Dg
open Go.RowKit Go.Proofs.YtldeigekagpekaaDoorW.PrintWords Go.Proofs.YtldeigekagpekaaDoorW.PrintMore
/-- All whole blocks go through. -/
def feedK : Nat → Q → List Int → Q × List Int
  | 0, t, l => (t, l)
  | k + 1, t, l => if 64 ≤ l.length then feedK k (eatP (l.take 64) t) (l.drop 64) else (t, l)
def feed (t : Q) (l : List Int) : Q × List Int := feedK l.length t l
theorem feedK_more : ∀ (k : Nat) (t : Q) (l : List Int), l.length ≤ k → feedK k t l = feedK l.length t l := by
  intro k
  induction k using Nat.strongRecOn with
  | _ k ih =>
    intro t l h
    rcases k with _ | k
    · have : l.length = 0 := by omega
      rw [this]
    · by_cases h64 : 64 ≤ l.length
      · obtain ⟨n, hn⟩ : ∃ n, l.length = n + 1 := ⟨l.length - 1, by omega⟩
        have hd : (l.drop 64).length = l.length - 64 := List.length_drop
        rw [hn]
        simp only [feedK, if_pos h64]
        rw [ih k (by omega) _ _ (by omega)]
        by_cases hk : n = k
        · subst hk
          rw [ih n (by omega) _ _ (by omega)]
        · rw [ih n (by omega) _ _ (by omega)]
      · simp only [feedK, if_neg h64]
        rcases hl : l.length with _ | n
        · rfl
        · simp only [feedK, if_neg h64]
theorem feed_step {t : Q} {l : List Int} (h : 64 ≤ l.length) : feed t l = feed (eatP (l.take 64) t) (l.drop 64) := by
  obtain ⟨n, hn⟩ : ∃ n, l.length = n + 1 := ⟨l.length - 1, by omega⟩
  have hd : (l.drop 64).length = l.length - 64 := List.length_drop
  unfold feed
  rw [hn]
  simp only [feedK, if_pos h]
  rw [feedK_more n _ _ (by omega)]
theorem feed_done {t : Q} {l : List Int} (h : l.length < 64) : feed t l = (t, l) := by
  unfold feed
  rcases hl : l.length with _ | n
  · rfl
  · simp only [feedK, if_neg (show ¬ 64 ≤ l.length by omega)]
/-- A state: its words, what waits, how many bytes. -/
def St (w : World) (g : Nat) (ok : Nat → Prop) (t : Q) (m : List Int) (n : Int) : Prop :=
  ∃ A c, w.heap[g]? = some (.cells (stA t.1 t.2.1 t.2.2.1 t.2.2.2 (.slice A m.length c) n) 48 (0, 0)) ∧ Kd.C (Kd.int .u8) w A m.length m ∧ m.length ≤ c ∧ (∀ x ∈ m, 0 ≤ x ∧ x < 256) ∧ (∀ ad, A = some ad → 0 < m.length → ok ad.block) ∧ InW t
theorem C_far {w : World} {g : Nat} {t : Q} {v : Value} {n : Int} (hv : ∀ x, v ≠ .int .u8 x) (hg : w.heap[g]? = some (.cells (stA t.1 t.2.1 t.2.2.1 t.2.2.2 v n) 48 (0, 0))) {A : Option Addr} {m : List Int} (hr : Kd.C (Kd.int .u8) w A m.length m) :
    ∀ ad, A = some ad → 0 < m.length → ad.block ≠ g := by
  intro ad e hp hb
  obtain ⟨ad', e', hc⟩ := Kd.at_int hr 0 (by omega) (by omega)
  rw [e] at e'
  obtain rfl := Option.some.inj e'
  rw [show (0 : Int).toNat = 0 from rfl, show ad.add 0 = ad by unfold Addr.add; simp] at hc
  obtain ⟨b, o, s⟩ := ad
  simp only at hb
  subst hb
  unfold World.cell? at hc
  rw [hg] at hc
  dsimp only at hc
  by_cases hs : s.isSome = true
  · simp [hs] at hc
  · rw [if_neg hs] at hc
    simp only [stA] at hc
    rcases o with _ | _ | _ | _ | _ | _ | o
    · simp at hc
    · simp at hc
    · simp at hc
    · simp at hc
    · simp at hc
      exact hv _ hc
    · simp at hc
    · simp at hc
theorem grown_set {w w' : World} {g : Nat} (h : w.grownBy w' (some g)) (j : Nat) (v : Value) : w.grownBy (w'.setCell ⟨g, j, none⟩ v) (some g) :=
  ⟨h.os, h.tape, h.output, Nat.le_trans h.size (by simp [World.setCell]), fun k hk hne => (Below.heap_setCell w' ⟨g, j, none⟩ v k (fun e => hne (by rw [e]))).trans (h.block k hk hne)⟩
theorem grown_trans {w w1 w2 : World} {g : Nat} {row : Option Nat} (h : w.grownBy w1 (some g)) (k : w1.grownBy w2 row) (hr : row = none ∨ row = some g) : w.grownBy w2 (some g) :=
  ⟨k.os.trans h.os, k.tape.trans h.tape, k.output.trans h.output, Nat.le_trans h.size k.size, fun i hi hne => (k.block i (Nat.lt_of_lt_of_le hi h.size) (by rcases hr with rfl | rfl <;> first | exact hne | simp)).trans (h.block i hi hne)⟩
theorem grown_below {w w1 w2 : World} {g : Nat} (h : w.grownBy w1 (some g)) (k : Below w1.heap.size w1 w2) : w.grownBy w2 (some g) :=
  ⟨k.os.trans h.os, k.tape.trans h.tape, k.output.trans h.output, Nat.le_trans h.size k.size, fun i hi hne => (k.block i (Nat.lt_of_lt_of_le hi h.size)).trans (h.block i hi hne)⟩
theorem keep_grown {w w' : World} {g : Nat} (h : w.grownBy w' (some g)) : KeepBut w w' g none := ⟨h.size, fun i hi hne _ => h.block i hi (fun e => hne (Option.some.inj e))⟩
theorem C_grown {w w' : World} {g : Nat} {A : Option Addr} {l : List Int} (h : Kd.C (Kd.int .u8) w A l.length l) (hg : w.grownBy w' (some g)) (far : ∀ ad, A = some ad → 0 < l.length → ad.block ≠ g) : Kd.C (Kd.int .u8) w' A l.length l :=
  Kd.C_keep (0 : Int) h (keep_grown hg) far
theorem tab_ne {w : World} {g : Nat} {t : Q} {A : Option Addr} {l c : Nat} {n : Int} (ht : Tab w) (hg : w.heap[g]? = some (.cells (stA t.1 t.2.1 t.2.2.1 t.2.2.2 (.slice A l c) n) 48 (0, 0))) : g ≠ 0 := by
  rintro rfl
  have h4 := ht 4 (by omega)
  rw [cell_of_row _ _ 4 _ _ _ hg] at h4
  simp [stA] at h4
theorem tab_grown {w w' : World} {g : Nat} (ht : Tab w) (h0 : g ≠ 0) (hg : w.grownBy w' (some g)) : Tab w' := fun i hi => hg.cell (ht i hi) (by simp only [ne_eq, Option.some.injEq]; exact fun e => h0 e.symm)
theorem tab_below {w w' : World} (ht : Tab w) (hb : Below w.heap.size w w') : Tab w' := fun i hi => pw_cell_below hb (ht i hi)
theorem nums_get {w : World} {ad : Addr} {l : List Int} (h : Kd.C (Kd.int .u8) w (some ad) l.length l) : ∀ j u, (nums .u8 l)[j]? = some u → w.cell? (ad.add j) = some u := by
  intro j u hu
  have hj : j < l.length := by have := (List.getElem?_eq_some_iff.1 hu).1; simpa [nums] using this
  obtain ⟨ad', e, hc⟩ := Kd.at_int h j (by omega) (by omega)
  obtain rfl := Option.some.inj e
  rw [Int.toNat_natCast] at hc
  rw [hc]
  simp only [nums, List.getElem?_map, List.getElem?_eq_getElem hj, Option.map_some, Option.some.injEq] at hu
  rw [← hu]
  unfold rd
  simp [List.getD_eq_getElem?_getD, List.getElem?_eq_getElem hj]
theorem own_C {w : World} {base n c : Nat} {A : Option Addr} {l : List Int} (h : w.ownsRow base 5 1 (.slice A n c) n (nums .u8 l)) (hl : l.length = n) : Kd.C (Kd.int .u8) w A l.length l := by
  subst hl
  exact Kd.C_of_reads (d := (0 : Int)) (h1 := fun _ => rfl) (own_reads' h)
theorem appended {w W w' : World} {g g8 c8 : Nat} {t : Q} {v : Value} {n : Int} {l : List Int} {k : Nat} (hl : l.length = k) (hg : W.heap[g]? = some (.cells (stA t.1 t.2.1 t.2.2.1 t.2.2.2 v n) 48 (0, 0))) (hG : w.grownBy W (some g))
    (hown : w'.ownsRow W.heap.size 5 1 (.slice (some ⟨g8, 0, none⟩) k c8) k (nums .u8 l)) (hgrow : W.grownBy w' none) :
    (w'.setCell ⟨g, 4, none⟩ (.slice (some ⟨g8, 0, none⟩) k c8)).heap[g]? = some (.cells (stA t.1 t.2.1 t.2.2.1 t.2.2.2 (.slice (some ⟨g8, 0, none⟩) l.length c8) n) 48 (0, 0)) ∧
    Kd.C (Kd.int .u8) (w'.setCell ⟨g, 4, none⟩ (.slice (some ⟨g8, 0, none⟩) k c8)) (some ⟨g8, 0, none⟩) l.length l ∧ l.length ≤ c8 ∧ w.heap.size ≤ g8 ∧ w.grownBy (w'.setCell ⟨g, 4, none⟩ (.slice (some ⟨g8, 0, none⟩) k c8)) (some g) := by
  have hlt := blk_lt hg
  have hb : W.heap.size ≤ g8 := by
    rcases own_base' hown with h | ⟨b, h, hb⟩
    · simp [Value.ownBlock] at h
    · simp [Value.ownBlock] at h; omega
  refine ⟨?_, ?_, ?_, Nat.le_trans hG.size hb, grown_set (grown_trans hG hgrow (.inl rfl)) 4 _⟩
  · rw [hl]; exact blk_set (blk_grown hg hgrow (by simp)) 4 _
  · refine C_grown (own_C hown hl) (grown_set (World.grownBy.refl w' (some g)) 4 _) ?_
    intro ad e _ h
    obtain rfl := Option.some.inj e
    simp only at h
    omega
  · rw [hl]; exact own_cap hown
theorem append_none (A B : Option Addr) (n cb : Nat) (u : World) : (Builtin.append_ #[22, 22] 22 #[.slice A n n, .slice B 0 cb]).run Tryd.prog u = .ok (.slice A n n) u := by
  obtain ⟨i5, hi5, hz0, hz1, hz2⟩ := info_parts info5
  refine run_append_nothing u 22 22 22 5 i5 Tryd.underlying22 hi5 A n n (Nat.le_refl _) _ ?_
  rcases B with _ | ad
  · exact Src.ofNil u Tryd.underlying22 cb
  · exact Src.ofSlice u Tryd.underlying22 ad 0 cb [] (by simp) (fun j v h => by simp at h) (fun v h => by simp at h)
/-- append onto a slice that is full: nothing of what was there is written. -/
theorem append_full {W : World} {A B : Option Addr} {m bs : List Int} {cb : Nat} (hr : Kd.C (Kd.int .u8) W A m.length m) (hb : Kd.C (Kd.int .u8) W B bs.length bs) (hl : m.length + bs.length ≤ 2000000) :
    ∃ A2 c2 w', (Builtin.append_ #[22, 22] 22 #[.slice A m.length m.length, .slice B bs.length cb]).run Tryd.prog W = .ok (.slice A2 (m.length + bs.length) c2) w' ∧ Kd.C (Kd.int .u8) w' A2 (m ++ bs).length (m ++ bs) ∧ m.length + bs.length ≤ c2 ∧ W.grownBy w' none ∧
      (bs = [] → A2 = A) ∧ (bs ≠ [] → ∃ g8, A2 = some ⟨g8, 0, none⟩ ∧ W.heap.size ≤ g8) := by
  by_cases hbs : bs = []
  · subst hbs
    refine ⟨A, m.length, W, append_none A B m.length cb W, ?_, by simp, World.grownBy.refl W none, fun _ => rfl, fun h => absurd rfl h⟩
    rw [List.append_nil]; exact hr
  · have hpos : 0 < bs.length := List.length_pos_iff.2 hbs
    obtain ⟨i5, hi5, hz0, hz1, hz2⟩ := info_parts info5
    obtain ⟨Bd, eB, _⟩ := Kd.at_int hb 0 (by omega) (by omega)
    subst eB
    have hone : ∀ u ∈ nums .u8 bs, u.oneCell' = true := by
      intro u hu; simp only [nums, List.mem_map] at hu; obtain ⟨z, _, rfl⟩ := hu; rfl
    have key : ∃ v' w', (Builtin.append_ #[22, 22] 22 #[.slice A m.length m.length, .slice (some Bd) bs.length cb]).run Tryd.prog W = .ok v' w' ∧ w'.ownsRow W.heap.size 5 1 v' (m.length + bs.length) (nums .u8 m ++ nums .u8 bs) ∧ W.grownBy w' none := by
      rcases A with _ | ad
      · have h0 : m.length = 0 := by
          rcases Nat.eq_zero_or_pos m.length with h | h
          · exact h
          · obtain ⟨ad, e, _⟩ := Kd.at_int hr 0 (by omega) (by omega)
            cases e
        obtain rfl : m = [] := List.eq_nil_of_length_eq_zero h0
        obtain ⟨v', w', hrun, r1, r2, _⟩ := run_append_own (P := Tryd.prog) W W.heap.size 22 22 5 i5 (.int .u8 0) 1 1 Tryd.underlying22 hi5 hz0 hz1 hz2 rfl (by decide) (.slice none 0 0) 0 [] (World.ownsRow_nil W _ 5 1) Bd bs.length cb (nums .u8 bs) (by simp [nums]) (nums_get hb) hone (by unfold maxLen; omega) (by omega) (Nat.le_refl _)
        exact ⟨v', w', hrun, by simpa [nums] using r1, r2⟩
      · exact run_append_arg_grows (P := Tryd.prog) W 22 22 5 i5 (.int .u8 0) 1 1 Tryd.underlying22 hi5 hz0 hz1 hz2 rfl (by decide) ad m.length m.length (nums .u8 m) (by simp [nums]) (nums_get hr) Bd bs.length cb (nums .u8 bs) (by simp [nums]) (nums_get hb) (by omega) (by unfold maxLen; omega) (by omega)
    obtain ⟨v', w', hrun, hown, hg⟩ := key
    obtain ⟨g8, c8, e8⟩ := Joins.ownsRow_form hown (by omega)
    subst e8
    have hb8 : W.heap.size ≤ g8 := by
      rcases own_base' hown with h | ⟨b, h, hb⟩
      · simp [Value.ownBlock] at h
      · simp [Value.ownBlock] at h; omega
    refine ⟨some ⟨g8, 0, none⟩, c8, w', hrun, ?_, own_cap hown, hg, fun h => absurd h hbs, fun _ => ⟨g8, rfl, hb8⟩⟩
    exact own_C (base := W.heap.size) (by rw [show nums .u8 (m ++ bs) = nums .u8 m ++ nums .u8 bs by simp [nums]]; exact hown) (by simp)
theorem cut_from (A : Option Addr) (n c lo : Nat) (h1 : lo ≤ n) (W : World) : (Instr.slice 22 (.slice A n c) (some (.int .i64 (lo : Int))) none none).run Tryd.prog W = .ok (.slice (if c = lo then A else A.map (·.add (lo * 1))) (n - lo) (c - lo)) W := by
  obtain ⟨i5, hi5, hs5⟩ := info5'
  have hel : Tryd.prog.elem 22 = 5 := by simp [Program.elem, Tryd.underlying22]
  have hu : Tryd.prog.underlying 22 = some (.slice (Tryd.prog.elem 22)) := by rw [hel]; exact Tryd.underlying22
  rw [run_slice_l W 22 A n c hu .i64 (lo : Int) (by omega) (by omega), hel]
  simp [sizeOf, typeInfo, hi5, hs5, sliced, Result.andThen]
theorem step_run {P : Program} {ops : Array Oper} {o : Oper} {a : Act} {w w' : World} {K : Act → World → Prop} {Q : Exit → Act → World → Prop} {E : Prop} {u v r : Value}
    (hg : o.guard = none) (s x : Operand) (t : TypeId) (hop : o.op = Op.call { callee := Callee.builtin Builtin.append, args := #[s, x], argTypes := #[t, t] }) (hs : a.eval s = u) (hx : a.eval x = v) (hrun : (Builtin.append_ #[t, t] o.type #[u, v]).run P w = .ok r w') (h : K (a.put o.dst r) w') :
    if Region.wanted o (yielded ops a.tmps) = true then Oper.wp P o a w K Q else E := by
  have hw : Region.wanted o (yielded ops a.tmps) = true := by simp [Region.wanted, hg]
  rw [if_pos hw]
  unfold Oper.wp
  simp [execOp, hop, resolve, invoke, builtin, hs, hx, hrun, Result.andThen]
  exact h
end Go.Proofs.YtldeigekagpekaaDoor.Dg
