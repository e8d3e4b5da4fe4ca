/- The walk of DigestParts. No condition beyond the table's. -/
import Derived.Test.YtldeigekagpekaaDoorDgCuts
import Derived.Test.YtldeigekagpekaaDoorDgOwn
set_option linter.unusedVariables false
set_option linter.unusedSimpArgs false
namespace Go.Proofs.YtldeigekagpekaaDoor.Dg
open Go.RowKit Go.Proofs.YtldeigekagpekaaDoorW.PrintWords Go.Proofs.YtldeigekagpekaaDoorW.PrintMore
theorem Dg_ok {w : World} {g : Nat} {ok ok' : Nat → Prop} {l : List Int} (h : Dg w g ok l) (hk : ∀ k, k < w.heap.size → ok k → ok' k) : Dg w g ok' l := by
  obtain ⟨A, c, h1, h2, h3, h4, h5, h6⟩ := h
  refine ⟨A, c, h1, h2, h3, h4, fun ad e hp => ?_, h6⟩
  subst e
  exact hk _ (Kd.C_lt h2 hp (by decide)) (h5 ad rfl hp)
/-- A text beside a state grows: the state is as it was, and beside the text still. -/
theorem Dg_app {w w' : World} {g : Nat} {l : List Int} {v v' : Value} (h : Dg w g (fun j => some j ≠ v.ownBlock) l) (hg : w.grownBy w' v.ownBlock) (hne : some g ≠ v.ownBlock) (hat : v'.ownBlock = v.ownBlock ∨ ∃ b, v'.ownBlock = some b ∧ w.heap.size ≤ b) : Dg w' g (fun j => some j ≠ v'.ownBlock) l := by
  have h1 : Dg w g (fun j => some j ≠ v.ownBlock ∧ j < w.heap.size) l := Dg_ok h (fun k hk ho => ⟨ho, hk⟩)
  have h2 : Dg w' g (fun j => some j ≠ v.ownBlock ∧ j < w.heap.size) l := by
    rcases hv : v.ownBlock with _ | b
    · rw [hv] at hg h1
      exact Dg_below h1 (below_of_grown hg)
    · rw [hv] at hg h1 hne
      exact Dg_row h1 hg (fun e => hne (by rw [e])) (fun k hk e => hk.1 (by rw [e]))
  refine Dg_ok h2 (fun k _ hk => ?_)
  rcases hat with e | ⟨b, e, hb⟩
  · rw [e]; exact hk.1
  · rw [e]; intro e2; injection e2 with e2; have := hk.2; omega
/-- The first k parts, one behind the other. -/
def cat (R : Nat → List Int) : Nat → List Int
  | 0 => []
  | k + 1 => cat R k ++ R k
theorem cat_len {R : Nat → List Int} {n : Nat} : ∀ (k : Nat), k ≤ n → (∀ r, r < k → (R r).length ≤ 40) → (cat R k).length ≤ 40 * k
  | 0, _, _ => by simp [cat]
  | k + 1, hk, h => by
    have := cat_len (n := n) k (by omega) (fun r hr => h r (by omega))
    have := h k (by omega)
    simp only [cat, List.length_append]
    omega
theorem cat_bytes {R : Nat → List Int} : ∀ (k : Nat), (∀ r, r < k → ∀ x ∈ R r, 0 ≤ x ∧ x < 256) → ∀ x ∈ cat R k, 0 ≤ x ∧ x < 256
  | 0, _ => fun x hx => by cases hx
  | k + 1, h => fun x hx => (List.mem_append.1 hx).elim (cat_bytes k (fun r hr => h r (by omega)) x) (h k (by omega) x)
theorem long6 (w : World) (A : Option Addr) (n cap : Nat) (ht : Tab w) (hl : 10 < n) :
    Calls Tryd.prog 6 #[.slice A n cap] w fun e w' => e = .returned (.bool true) ∧ Below w.heap.size w w' := by
  have HT := Aside0.mk ht
  have t : (10 : Int) < (n : Int) := by omega
  clear ht hl
  go_enter Tryd.func6, Tryd.ntmps6
  go_wp2_with fail
  refine (awake_any _ HT.out).mono ?_
  rintro e w1 ⟨rfl, hb1⟩
  have BW := Aside0.mk hb1
  clear hb1
  go_wp2_with fail
  go_ret
  exact ⟨rfl, BW.out⟩
set_option maxHeartbeats 4000000 in
set_option maxRecDepth 100000 in
theorem parts_any (w : World) (A0 : Option Addr) (n cap : Nat) (A : Nat → Option Addr) (C : Nat → Nat) (R : Nat → List Int) (hn : n ≤ 10)
    (h0 : 0 < n → ∃ ad, A0 = some ad ∧ ∀ r, r < n → w.cell? (ad.add r) = some (.slice (A r) (R r).length (C r)))
    (hr : ∀ r, r < n → Kd.C (Kd.int .u8) w (A r) (R r).length (R r) ∧ (R r).length ≤ C r ∧ ∀ x ∈ R r, 0 ≤ x ∧ x < 256) (ht : Tab w) :
    Calls Tryd.prog 6 #[.slice A0 n cap] w fun e w' => e = .returned (.bool true) ∧ Below w.heap.size w w' := by
  have H0 := Aside0.mk h0
  have HR := Aside0.mk hr
  have HT := Aside0.mk ht
  have t : ¬ (10 : Int) < (n : Int) := by omega
  clear h0 hr ht
  go_enter Tryd.func6, Tryd.ntmps6
  go_wp2_with fail
  refine (awake_any _ HT.out).mono ?_
  rintro e w1 ⟨rfl, hb1⟩
  have BW := Aside0.mk hb1
  clear hb1
  go_wp2_with fail
  refine (new_any _).mono ?_
  rintro e w2 ⟨rfl, hw2⟩
  have DS := Aside0.mk (Dg_new w1 (fun k => some k ≠ (Value.slice none 0 0).ownBlock))
  have GS : Aside0 (w.heap.size ≤ w1.heap.size) := ⟨BW.out.size⟩
  have n_ := Aside0.mk (below_alloc BW.out (.cells (stA 1732584193 4023233417 2562383102 271733878 (.slice none 0 0) 0) 48)); clear BW; have BW := n_; clear n_
  rw [← hw2] at DS BW
  clear hw2
  generalize w1.heap.size = g1 at *
  go_wp2_with fail
  go_loopw [5, 6] (fun v5 v6 wr => ∃ k : Nat, k ≤ n ∧ v6 = .int .i64 k ∧ Aside0 (∀ r, r < k → (R r).length ≤ 40) ∧ Aside0 (Kd.R (Kd.int .u8) 5 wr w.heap.size (fun _ => True) v5 (cat R k)) ∧ Aside0 (Dg wr g1 (fun k => some k ≠ v5.ownBlock) (cat R k)) ∧ Aside0 (Below w.heap.size w wr)) (fun _ v6 _ => n - (intOf v6).toNat)
  case atStart => exact ⟨0, Nat.zero_le _, rfl, ⟨fun r hr => by omega⟩, ⟨Kd.R_nil _ _ _ _ _⟩, DS, BW⟩
  case round =>
    clear DS BW
    obtain ⟨k, hk, rfl, HK, HO, DS, BW⟩ := hrel
    obtain ⟨A5, c5, e5⟩ := Kd.R_slice HO.out
    subst e5
    by_cases hlt : k < n
    · obtain ⟨ad, ea, hcell⟩ := H0.out (by omega)
      subst ea
      have k0 : (0 : Int) ≤ k := by omega
      have k1 : (k : Int) < (n : Int) := by omega
      have hk1 := pw_cell_below BW.out (hcell k hlt)
      have HC := Aside0.mk hcell
      obtain ⟨h1, h2, h3⟩ := HR.out k hlt
      have RC := Aside0.mk h1
      have RX := Aside0.mk (And.intro h2 h3)
      clear hcell h1 h2 h3
      by_cases h40 : 40 < (R k).length
      · have t40 : decide ((40 : Int) < ((R k).length : Int)) = true := decide_eq_true (by omega)
        go_wp2_with fail
        go_ret
        exact ⟨rfl, BW.out⟩
      · have t40 : decide ((40 : Int) < ((R k).length : Int)) = false := decide_eq_false (by omega)
        have L40 : Aside0 ((R k).length ≤ 40) := ⟨by omega⟩
        have HK1 : Aside0 (∀ r, r < k + 1 → (R r).length ≤ 40) := ⟨fun r hr => (Nat.lt_succ_iff_lt_or_eq.1 hr).elim (HK.out r) (fun e => by rw [e]; exact L40.out)⟩
        have LC : Aside0 ((cat R k).length ≤ 400) := ⟨by have := cat_len (n := n) k hk HK.out; omega⟩
        have LC1 : Aside0 ((cat R (k + 1)).length ≤ 400) := ⟨by have := cat_len (n := n) (k + 1) (by omega) HK1.out; omega⟩
        have XC1 : Aside0 (∀ x ∈ cat R (k + 1), 0 ≤ x ∧ x < 256) := ⟨cat_bytes (k + 1) (fun r hr => (HR.out r (by omega)).2.2)⟩
        have CC : Aside0 (cat R k ++ R k = cat R (k + 1)) := ⟨rfl⟩
        clear h40
        go_wp2_with fail
        have FR : Aside0 (some g1 ≠ (Value.slice A5 (cat R k).length c5).ownBlock) := ⟨by obtain ⟨A', c', h1, _⟩ := DS.out; exact Kd.R_ne HO.out h1 (by decide)⟩
        refine (Dg_add wr g1 (fun j => some j ≠ (Value.slice A5 (cat R k).length c5).ownBlock) (fun j => some j ≠ (Value.slice A5 (cat R k).length c5).ownBlock) (cat R k) (R k) (A k) (C k) DS.out (Kd.C_below RC.out BW.out) RX.out.1 RX.out.2 (tab_below HT.out BW.out) (by have := LC.out; omega) (by have := L40.out; omega) (fun _ _ h => h) (fun _ j hj e => by have := Kd.R_lt HO.out j e.symm; omega)).mono ?_
        rintro e w5 ⟨rfl, hd, hg⟩
        have n_ := Aside0.mk hd; clear DS; have DS := n_; clear n_
        have n_ := Aside0.mk (Below.grown BW.out hg BW.out.size (fun k e => by have := GS.out; injection e with e; omega)); clear BW; have BW := n_; clear n_
        have n_ := Aside0.mk (Kd.R_grown2 HO.out rfl hg (fun k e => by injection e with e; subst e; exact FR.out)); clear HO; have HO := n_; clear n_
        clear hd hg hk1
        have hk1 := pw_cell_below BW.out (HC.out k hlt)
        go_wp2_with ((with_reducible refine gate_builtin (b := .append) (xs := #[.tmp 34, .tmp 38]) rfl ?_); at_builtin; refine Kd.R_append_rows (Kd.int .u8) (w0 := w) w.heap.size rfl (.tmp 34) (.tmp 38) 22 5 (.int .u8 0) 1 rfl Tryd.underlying22 info5 rfl (by decide) (by omega) (.slice A5 (cat R k).length c5) (cat R k) (R k) _ _ _ (fun _ => True) (fun _ => False) rfl rfl ?aO ?aR (fun _ _ h => h) (fun _ h => h.elim) ?aF ?aB ?aS ?aL ?_; (case aR => exact (Kd.C_below RC.out BW.out)); (case aB => exact BW.out); (case aF => exact (fun _ _ => trivial)); (case aO => exact HO.out); (case aS => exact BW.out.size); (case aL => have := LC.out; have := L40.out; omega); intro v39 w6 ho hb hg hat; rw [CC.out] at ho; have n0_ := Aside0.mk (Dg_app DS.out hg FR.out hat); clear DS; have DS := n0_; clear n0_; rw [CC.out] at DS; have n0_ := Aside0.mk hb; have n1_ := Aside0.mk ho; clear BW; clear HO; have BW := n0_; have HO := n1_; clear n0_ n1_; clear ho hb hg hat)
        obtain ⟨A6, c6, e6⟩ := Kd.R_slice HO.out
        subst e6
        clear hk1 FR
        have e24 := eq24 (ofP (cat R (k + 1))) (ofP_len _)
        go_wp2_with fail
        refine (Dg_len w6 g1 _ (cat R (k + 1)) DS.out).mono ?_
        rintro e _ ⟨rfl, rfl⟩
        go_wp2_with fail
        refine (Dg_sum w6 g1 _ (cat R (k + 1)) DS.out (tab_below HT.out BW.out) (by have := LC1.out; omega)).mono ?_
        rintro e w7 ⟨rfl, hb⟩
        have n_ := Aside0.mk (Dg_below DS.out hb); clear DS; have DS := n_; clear n_
        have n_ := Aside0.mk (Kd.R_below HO.out hb); clear HO; have HO := n_; clear n_
        have n_ := Aside0.mk (below_step BW.out hb); clear BW; have BW := n_; clear n_
        clear hb
        go_wp2_with fail
        refine (of_any w7 A6 c6 (cat R (k + 1)) (Kd.R_reads' HO.out).2.2 (Kd.R_reads' HO.out).2.1 XC1.out (tab_below HT.out BW.out) (by have := LC1.out; omega)).mono ?_
        rintro e w8 ⟨rfl, hb⟩
        have n_ := Aside0.mk (Dg_below DS.out hb); clear DS; have DS := n_; clear n_
        have n_ := Aside0.mk (Kd.R_below HO.out hb); clear HO; have HO := n_; clear n_
        have n_ := Aside0.mk (below_step BW.out hb); clear BW; have BW := n_; clear n_
        clear hb
        go_wp2_with fail
        refine (Dg_sum w8 g1 _ (cat R (k + 1)) DS.out (tab_below HT.out BW.out) (by have := LC1.out; omega)).mono ?_
        rintro e w9 ⟨rfl, hb⟩
        have n_ := Aside0.mk (Dg_below DS.out hb); clear DS; have DS := n_; clear n_
        have n_ := Aside0.mk (Kd.R_below HO.out hb); clear HO; have HO := n_; clear n_
        have n_ := Aside0.mk (below_step BW.out hb); clear BW; have BW := n_; clear n_
        clear hb
        go_wp2_with fail
        refine (Dg_sum w9 g1 _ (cat R (k + 1)) DS.out (tab_below HT.out BW.out) (by have := LC1.out; omega)).mono ?_
        rintro e w10 ⟨rfl, hb⟩
        have n_ := Aside0.mk (Dg_below DS.out hb); clear DS; have DS := n_; clear n_
        have n_ := Aside0.mk (Kd.R_below HO.out hb); clear HO; have HO := n_; clear n_
        have n_ := Aside0.mk (below_step BW.out hb); clear BW; have BW := n_; clear n_
        clear hb
        go_wp2_with fail
        go_roundw
        case rel => exact ⟨k + 1, by omega, by go_num, HK1, HO, DS, BW⟩
        case measure => simp only [intOf]; omega
    · obtain rfl : k = n := by omega
      have LC : Aside0 ((cat R k).length ≤ 400) := ⟨by have := cat_len (n := k) k hk HK.out; omega⟩
      have XC : Aside0 (∀ x ∈ cat R k, 0 ≤ x ∧ x < 256) := ⟨cat_bytes k (fun r hr => (HR.out r hr).2.2)⟩
      have e24 := eq24 (ofP (cat R k)) (ofP_len _)
      go_wp2_with fail
      refine (Dg_sum wr g1 _ (cat R k) DS.out (tab_below HT.out BW.out) (by have := LC.out; omega)).mono ?_
      rintro e w8 ⟨rfl, hb⟩
      have n_ := Aside0.mk (Kd.R_below HO.out hb); clear HO; have HO := n_; clear n_
      have n_ := Aside0.mk (below_step BW.out hb); clear BW; have BW := n_; clear n_
      clear hb
      go_wp2_with fail
      refine (of_any w8 A5 c5 (cat R k) (Kd.R_reads' HO.out).2.2 (Kd.R_reads' HO.out).2.1 XC.out (tab_below HT.out BW.out) (by have := LC.out; omega)).mono ?_
      rintro e w9 ⟨rfl, hb⟩
      have n_ := Aside0.mk (below_step BW.out hb); clear BW; have BW := n_; clear n_
      clear hb
      go_wp2_with fail
      go_ret
      exact ⟨rfl, BW.out⟩
end Go.Proofs.YtldeigekagpekaaDoor.Dg
