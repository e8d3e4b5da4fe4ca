/- Walks of Weight and Weights, shape by shape. Conditions: each lemma names its own. -/
import Derived.Test.YtkhkmeadaljhoaaWinOne
namespace Go.Proofs.Ytkhkmeadaljhoaa.Win
open Go.RowKit Go.Proofs.YtkhkmeadaljhoaaW.PrintWords Go.Proofs.YtkhkmeadaljhoaaW.PrintMore
theorem info3 : (Try.prog.info? 3).map (fun i => (i.zero, i.size, i.bytes)) = some (some (.int .i64 0), 1, 8) := by kernel_rfl
theorem ta_none (w : World) : (Instr.typeAssert .nilIface 20 41 true).run Try.prog w = .ok (.tuple #[.nilIface, .bool false]) w := by kernel_rfl
/-- The weight by a shape's number. -/
def wt (s i n : Int) : Int := if s = 0 then 32768 else if s = 1 then tentW i n else hillW i n
/-- How far the row is filled. -/
def filled (s : Int) (n k : Nat) : List Int := (List.range k).map (fun (i : Nat) => wt s i n) ++ List.replicate (n - k) 0
theorem filled_len (s : Int) (n k : Nat) (h : k ≤ n) : (filled s n k).length = n := by simp [filled]; omega
theorem filled_set (s : Int) (n k : Nat) (h : k < n) : (filled s n k).set k (wt s k n) = filled s n (k + 1) := by
  unfold filled
  have hl : ((List.range k).map (fun (i : Nat) => wt s i n)).length = k := by simp
  obtain ⟨m, hm⟩ : ∃ m, n - k = m + 1 := ⟨n - k - 1, by omega⟩
  rw [List.set_append_right _ _ (by omega), hl, Nat.sub_self, hm, List.replicate_succ, List.set_cons_zero, List.range_succ, List.map_append, show n - (k + 1) = m by omega]
  simp
theorem filled_all (s : Int) (n : Nat) : filled s n n = (List.range n).map (fun (i : Nat) => wt s i n) := by simp [filled]
theorem weight_nokind (s i n : Int) (w : World) (h : s < 0 ∨ 2 < s) : Calls Try.prog 10 #[.int .i64 s, .int .i64 i, .int .i64 n] w fun e w' => e = .returned (.tuple #[.int .i64 0, .int .i64 8]) ∧ Below w.heap.size w w' := by
  have k := ta_none
  have N := Aside0.mk (fun w => named_none s w h)
  clear h
  go_enter Try.func10, Try.ntmps10
  go_wp2_with fail
  refine (N.out _).mono ?_
  rintro e w1 ⟨rfl, rfl⟩
  go_wp2_with fail
  go_ret2
  exact ⟨rfl, Below.refl _ _⟩
theorem weights_nokind (s n : Int) (w : World) (h : s < 0 ∨ 2 < s) : Calls Try.prog 12 #[.int .i64 s, .int .i64 n] w fun e w' => e = .returned (.tuple #[.slice none 0 0, .int .i64 8]) ∧ Below w.heap.size w w' := by
  have k := ta_none
  have N := Aside0.mk (fun w => named_none s w h)
  clear h
  go_enter Try.func12, Try.ntmps12
  go_wp2_with fail
  refine (N.out _).mono ?_
  rintro e w1 ⟨rfl, rfl⟩
  go_wp2_with fail
  go_ret2
  exact ⟨rfl, Below.refl _ _⟩

theorem ta47 (w : World) : (Instr.typeAssert (.iface 47 (.agg #[])) 20 41 true).run Try.prog w = .ok (.tuple #[.iface 47 (.agg #[]), .bool true]) w := by kernel_rfl
theorem me47 (w : World) : (method 167 47 (.agg #[]) "serinette/window.at").run Try.prog w = .ok (36, .agg #[]) w := by kernel_rfl
theorem flat_wt (i n : Int) (w : World) (_i0 : 0 ≤ i) (_i1 : i < n) (_n1 : n ≤ 65535) : Calls Try.prog 36 #[.agg #[], .int .i64 i, .int .i64 n] w fun e w' => e = .returned (.int .i64 (wt 0 i n)) ∧ Below w.heap.size w w' := flat_at i n w
theorem weight_flat (i n : Int) (w : World) (i0 : 0 ≤ i) (i1 : i < n) (n1 : n ≤ 65535) : Calls Try.prog 10 #[.int .i64 0, .int .i64 i, .int .i64 n] w fun e w' => e = .returned (.tuple #[.int .i64 (wt 0 i n), .int .i64 0]) ∧ Below w.heap.size w w' := by
  have k := ta47
  have k2 := me47
  go_enter Try.func10, Try.ntmps10
  go_wp2_with fail
  refine (named_flat _).mono ?_
  rintro e w1 ⟨rfl, rfl⟩
  go_wp2_with fail
  refine (flat_wt _ _ _ i0 i1 n1).mono ?_
  rintro e w1 ⟨rfl, hb1⟩
  have HB := Aside0.mk hb1
  clear hb1
  go_wp2_with fail
  go_ret2
  exact ⟨rfl, HB.out⟩
theorem weight_flat_bad (i n : Int) (w : World) (h : n < 1 ∨ 65535 < n ∨ i < 0 ∨ n ≤ i) : Calls Try.prog 10 #[.int .i64 0, .int .i64 i, .int .i64 n] w fun e w' => e = .returned (.tuple #[.int .i64 0, .int .i64 1]) ∧ Below w.heap.size w w' := by
  have k := ta47
  by_cases c1 : n < 1
  · have b1 : decide (n < 1) = true := decide_eq_true c1
    clear h c1
    go_enter Try.func10, Try.ntmps10
    go_wp2_with fail
    refine (named_flat _).mono ?_
    rintro e w1 ⟨rfl, rfl⟩
    go_wp2_with fail
    go_ret2
    exact ⟨rfl, Below.refl _ _⟩
  · have b1 : decide (n < 1) = false := decide_eq_false c1
    by_cases c2 : 65535 < n
    · have b2 : decide (65535 < n) = true := decide_eq_true c2
      clear h c1 c2
      go_enter Try.func10, Try.ntmps10
      go_wp2_with fail
      refine (named_flat _).mono ?_
      rintro e w1 ⟨rfl, rfl⟩
      go_wp2_with fail
      go_ret2
      exact ⟨rfl, Below.refl _ _⟩
    · have b2 : decide (65535 < n) = false := decide_eq_false c2
      by_cases c3 : i < 0
      · have b3 : decide (i < 0) = true := decide_eq_true c3
        clear h c1 c2 c3
        go_enter Try.func10, Try.ntmps10
        go_wp2_with fail
        refine (named_flat _).mono ?_
        rintro e w1 ⟨rfl, rfl⟩
        go_wp2_with fail
        go_ret2
        exact ⟨rfl, Below.refl _ _⟩
      · have b3 : decide (i < 0) = false := decide_eq_false c3
        have b4 : decide (n ≤ i) = true := decide_eq_true (by omega)
        clear h c1 c2 c3
        go_enter Try.func10, Try.ntmps10
        go_wp2_with fail
        refine (named_flat _).mono ?_
        rintro e w1 ⟨rfl, rfl⟩
        go_wp2_with fail
        go_ret2
        exact ⟨rfl, Below.refl _ _⟩
theorem weights_flat_bad (n : Int) (w : World) (h : n < 0 ∨ 65535 < n) : Calls Try.prog 12 #[.int .i64 0, .int .i64 n] w fun e w' => e = .returned (.tuple #[.slice none 0 0, .int .i64 1]) ∧ Below w.heap.size w w' := by
  have k := ta47
  by_cases c1 : n < 0
  · have b1 : decide (n < 0) = true := decide_eq_true c1
    clear h c1
    go_enter Try.func12, Try.ntmps12
    go_wp2_with fail
    refine (named_flat _).mono ?_
    rintro e w1 ⟨rfl, rfl⟩
    go_wp2_with fail
    go_ret2
    exact ⟨rfl, Below.refl _ _⟩
  · have b1 : decide (n < 0) = false := decide_eq_false c1
    have b2 : decide (65535 < n) = true := decide_eq_true (by omega)
    clear h c1
    go_enter Try.func12, Try.ntmps12
    go_wp2_with fail
    refine (named_flat _).mono ?_
    rintro e w1 ⟨rfl, rfl⟩
    go_wp2_with fail
    go_ret2
    exact ⟨rfl, Below.refl _ _⟩
set_option maxHeartbeats 1000000 in
theorem weights_flat (n : Nat) (w : World) (n1 : n ≤ 65535) : Calls Try.prog 12 #[.int .i64 0, .int .i64 n] w fun e w' => ∃ v0_ : Value, e = .returned (.tuple #[v0_, .int .i64 0]) ∧ Kd.R (Kd.int .i64) 3 w' w.heap.size (fun _ => True) v0_ ((List.range n).map (fun (i : Nat) => wt 0 i n)) ∧ Below w.heap.size w w' := by
  have k := ta47
  have k2 := me47
  have HB := Aside0.mk (Below.refl w.heap.size w)
  obtain ⟨ys, hys⟩ : ∃ y_ : List Int, y_ = List.replicate ((n : Int) : Int).toNat 0 := ⟨_, rfl⟩
  have NY := Aside0.mk hys
  clear hys
  have n0 : (0 : Int) ≤ (n : Int) := by omega
  have n2 : (n : Int) ≤ 65535 := by omega
  go_enter Try.func12, Try.ntmps12
  go_wp2_with fail
  refine (named_flat _).mono ?_
  rintro e w1 ⟨rfl, rfl⟩
  go_wp2_with (first | ((with_reducible refine gate_dst (N := 24) rfl ?_); refine Kd.R_make (Kd.int .i64) _ 3 rfl (N := 24) rfl 26 _ _ rfl (n : Int) rfl rfl Try.underlying26 (.int .i64 0) 8 info3 rfl (by decide) (by omega) 0 (ok := fun _ => True) (okp := fun _ => True) rfl (fun _ hk => hk) trivial n0 (by omega) (Below.refl _ _) (Nat.le_refl _) ?_; intro v106 w6 ho7 hb hg_ hnew_; clear hg_ hnew_; rw [← NY.out] at ho7; have n0_ := Aside0.mk (Kd.R_lower ho7 (below_size HB.out)); have n1_ := Aside0.mk (below_step HB.out hb); clear HB; have HO := n0_; have HB := n1_; clear n0_ n1_; clear hb ho7; rw [NY.out, show List.replicate ((n : Int) : Int).toNat (0 : Int) = filled 0 n 0 by simp [filled]] at HO; obtain ⟨Ao, co, eo⟩ := Kd.R_slice HO.out; rw [filled_len 0 n 0 (Nat.zero_le _)] at eo; subst eo; clear NY))
  go_loopw [27] (fun v27 wr => ∃ k : Nat, k ≤ n ∧ v27 = .int .i64 k ∧ Aside0 (Kd.R (Kd.int .i64) 3 wr w.heap.size (fun _ => True) (.slice Ao n co) (filled 0 n k)) ∧ Aside0 (Below w.heap.size w wr)) (fun v27 _ => n - (intOf v27).toNat)
  case atStart => exact ⟨0, Nat.zero_le _, rfl, HO, HB⟩
  case round =>
    clear HO HB
    obtain ⟨k, hk, rfl, HO, HB⟩ := hrel
    by_cases hlt : k < n
    · have i0 : (0 : Int) ≤ (k : Int) := by omega
      have i1 : (k : Int) < (n : Int) := by omega
      go_wp2_with fail
      refine (flat_wt _ _ _ i0 i1 n2).mono ?_
      rintro e w5 ⟨rfl, hb5⟩
      have HO5 := Aside0.mk (Kd.R_below HO.out hb5)
      have HB5 := Aside0.mk (below_step HB.out hb5)
      clear hb5 HO HB
      have hlen := Aside0.mk (filled_len 0 n k hk)
      obtain ⟨go13, co13, eo13, gb13, gl13, cl13, HG13⟩ := Kd.R_form HO5.out (by rw [hlen.out]; omega)
      injection eo13 with ea_ en_ ec_
      subst ea_ ec_
      have GB13 := Aside0.mk gb13
      clear gb13 gl13 cl13 HG13 en_
      obtain ⟨hx13, hf13⟩ := Kd.R_celln 0 HO5.out (k : Int) i0 i1
      rw [Int.toNat_natCast] at hx13 hf13
      have HP := Aside0.mk (Kd.R_putg HO5.out (k : Int) (wt 0 k n))
      have HS := Aside0.mk (filled_set 0 n k hlt)
      generalize wt 0 (k : Int) (n : Int) = wv at *
      go_wp2_with (first | ((with_reducible refine gate_store (t := 3) (p := 36) rfl ?_); refine store_event (t := 3) (p := 36) (v := ?vo_w15) (w1 := (w5.setCell ⟨go13, k, none⟩ (.int .i64 wv))) ?hg ?ho ?hn ?hr ?_; (case ho => rfl); (case hg => rfl); (case hn => rfl); (case hr => first | (go_simp; done) | (go_simp; rfl)); intro w15 hw; have hp_ := Aside0.mk (show Kd.R (Kd.int .i64) 3 w15 w.heap.size (fun _ => True) (.slice (some ⟨go13, 0, none⟩) n co) (filled 0 n (k + 1)) by rw [hw, ← HS.out]; exact HP.out.1); have n1_ := Aside0.mk ((by rw [hw]; exact below_set (HB5.out) GB13.out : Below w.heap.size w w15)); clear HO5; clear HB5; have HO := hp_; have HB := n1_; clear n1_; clear hw hp_))
      go_roundw
      case rel => exact ⟨k + 1, by omega, by go_num, HO, HB⟩
      case measure => simp [intOf]; omega
    · obtain rfl : k = n := by omega
      rw [filled_all] at HO
      go_wp2_with fail
      go_ret2
      exact ⟨_, rfl, HO.out, HB.out⟩

theorem ta48 (w : World) : (Instr.typeAssert (.iface 48 (.agg #[])) 20 41 true).run Try.prog w = .ok (.tuple #[.iface 48 (.agg #[]), .bool true]) w := by kernel_rfl
theorem me48 (w : World) : (method 167 48 (.agg #[]) "serinette/window.at").run Try.prog w = .ok (37, .agg #[]) w := by kernel_rfl
theorem tent_wt (i n : Int) (w : World) (i0 : 0 ≤ i) (i1 : i < n) (n1 : n ≤ 65535) : Calls Try.prog 37 #[.agg #[], .int .i64 i, .int .i64 n] w fun e w' => e = .returned (.int .i64 (wt 1 i n)) ∧ Below w.heap.size w w' := tent_at i n w i0 i1 n1
theorem weight_tent (i n : Int) (w : World) (i0 : 0 ≤ i) (i1 : i < n) (n1 : n ≤ 65535) : Calls Try.prog 10 #[.int .i64 1, .int .i64 i, .int .i64 n] w fun e w' => e = .returned (.tuple #[.int .i64 (wt 1 i n), .int .i64 0]) ∧ Below w.heap.size w w' := by
  have k := ta48
  have k2 := me48
  go_enter Try.func10, Try.ntmps10
  go_wp2_with fail
  refine (named_tent _).mono ?_
  rintro e w1 ⟨rfl, rfl⟩
  go_wp2_with fail
  refine (tent_wt _ _ _ i0 i1 n1).mono ?_
  rintro e w1 ⟨rfl, hb1⟩
  have HB := Aside0.mk hb1
  clear hb1
  go_wp2_with fail
  go_ret2
  exact ⟨rfl, HB.out⟩
theorem weight_tent_bad (i n : Int) (w : World) (h : n < 1 ∨ 65535 < n ∨ i < 0 ∨ n ≤ i) : Calls Try.prog 10 #[.int .i64 1, .int .i64 i, .int .i64 n] w fun e w' => e = .returned (.tuple #[.int .i64 0, .int .i64 1]) ∧ Below w.heap.size w w' := by
  have k := ta48
  by_cases c1 : n < 1
  · have b1 : decide (n < 1) = true := decide_eq_true c1
    clear h c1
    go_enter Try.func10, Try.ntmps10
    go_wp2_with fail
    refine (named_tent _).mono ?_
    rintro e w1 ⟨rfl, rfl⟩
    go_wp2_with fail
    go_ret2
    exact ⟨rfl, Below.refl _ _⟩
  · have b1 : decide (n < 1) = false := decide_eq_false c1
    by_cases c2 : 65535 < n
    · have b2 : decide (65535 < n) = true := decide_eq_true c2
      clear h c1 c2
      go_enter Try.func10, Try.ntmps10
      go_wp2_with fail
      refine (named_tent _).mono ?_
      rintro e w1 ⟨rfl, rfl⟩
      go_wp2_with fail
      go_ret2
      exact ⟨rfl, Below.refl _ _⟩
    · have b2 : decide (65535 < n) = false := decide_eq_false c2
      by_cases c3 : i < 0
      · have b3 : decide (i < 0) = true := decide_eq_true c3
        clear h c1 c2 c3
        go_enter Try.func10, Try.ntmps10
        go_wp2_with fail
        refine (named_tent _).mono ?_
        rintro e w1 ⟨rfl, rfl⟩
        go_wp2_with fail
        go_ret2
        exact ⟨rfl, Below.refl _ _⟩
      · have b3 : decide (i < 0) = false := decide_eq_false c3
        have b4 : decide (n ≤ i) = true := decide_eq_true (by omega)
        clear h c1 c2 c3
        go_enter Try.func10, Try.ntmps10
        go_wp2_with fail
        refine (named_tent _).mono ?_
        rintro e w1 ⟨rfl, rfl⟩
        go_wp2_with fail
        go_ret2
        exact ⟨rfl, Below.refl _ _⟩
theorem weights_tent_bad (n : Int) (w : World) (h : n < 0 ∨ 65535 < n) : Calls Try.prog 12 #[.int .i64 1, .int .i64 n] w fun e w' => e = .returned (.tuple #[.slice none 0 0, .int .i64 1]) ∧ Below w.heap.size w w' := by
  have k := ta48
  by_cases c1 : n < 0
  · have b1 : decide (n < 0) = true := decide_eq_true c1
    clear h c1
    go_enter Try.func12, Try.ntmps12
    go_wp2_with fail
    refine (named_tent _).mono ?_
    rintro e w1 ⟨rfl, rfl⟩
    go_wp2_with fail
    go_ret2
    exact ⟨rfl, Below.refl _ _⟩
  · have b1 : decide (n < 0) = false := decide_eq_false c1
    have b2 : decide (65535 < n) = true := decide_eq_true (by omega)
    clear h c1
    go_enter Try.func12, Try.ntmps12
    go_wp2_with fail
    refine (named_tent _).mono ?_
    rintro e w1 ⟨rfl, rfl⟩
    go_wp2_with fail
    go_ret2
    exact ⟨rfl, Below.refl _ _⟩
set_option maxHeartbeats 1000000 in
theorem weights_tent (n : Nat) (w : World) (n1 : n ≤ 65535) : Calls Try.prog 12 #[.int .i64 1, .int .i64 n] w fun e w' => ∃ v0_ : Value, e = .returned (.tuple #[v0_, .int .i64 0]) ∧ Kd.R (Kd.int .i64) 3 w' w.heap.size (fun _ => True) v0_ ((List.range n).map (fun (i : Nat) => wt 1 i n)) ∧ Below w.heap.size w w' := by
  have k := ta48
  have k2 := me48
  have HB := Aside0.mk (Below.refl w.heap.size w)
  obtain ⟨ys, hys⟩ : ∃ y_ : List Int, y_ = List.replicate ((n : Int) : Int).toNat 0 := ⟨_, rfl⟩
  have NY := Aside0.mk hys
  clear hys
  have n0 : (0 : Int) ≤ (n : Int) := by omega
  have n2 : (n : Int) ≤ 65535 := by omega
  go_enter Try.func12, Try.ntmps12
  go_wp2_with fail
  refine (named_tent _).mono ?_
  rintro e w1 ⟨rfl, rfl⟩
  go_wp2_with (first | ((with_reducible refine gate_dst (N := 24) rfl ?_); refine Kd.R_make (Kd.int .i64) _ 3 rfl (N := 24) rfl 26 _ _ rfl (n : Int) rfl rfl Try.underlying26 (.int .i64 0) 8 info3 rfl (by decide) (by omega) 0 (ok := fun _ => True) (okp := fun _ => True) rfl (fun _ hk => hk) trivial n0 (by omega) (Below.refl _ _) (Nat.le_refl _) ?_; intro v106 w6 ho7 hb hg_ hnew_; clear hg_ hnew_; rw [← NY.out] at ho7; have n0_ := Aside0.mk (Kd.R_lower ho7 (below_size HB.out)); have n1_ := Aside0.mk (below_step HB.out hb); clear HB; have HO := n0_; have HB := n1_; clear n0_ n1_; clear hb ho7; rw [NY.out, show List.replicate ((n : Int) : Int).toNat (0 : Int) = filled 1 n 0 by simp [filled]] at HO; obtain ⟨Ao, co, eo⟩ := Kd.R_slice HO.out; rw [filled_len 1 n 0 (Nat.zero_le _)] at eo; subst eo; clear NY))
  go_loopw [27] (fun v27 wr => ∃ k : Nat, k ≤ n ∧ v27 = .int .i64 k ∧ Aside0 (Kd.R (Kd.int .i64) 3 wr w.heap.size (fun _ => True) (.slice Ao n co) (filled 1 n k)) ∧ Aside0 (Below w.heap.size w wr)) (fun v27 _ => n - (intOf v27).toNat)
  case atStart => exact ⟨0, Nat.zero_le _, rfl, HO, HB⟩
  case round =>
    clear HO HB
    obtain ⟨k, hk, rfl, HO, HB⟩ := hrel
    by_cases hlt : k < n
    · have i0 : (0 : Int) ≤ (k : Int) := by omega
      have i1 : (k : Int) < (n : Int) := by omega
      go_wp2_with fail
      refine (tent_wt _ _ _ i0 i1 n2).mono ?_
      rintro e w5 ⟨rfl, hb5⟩
      have HO5 := Aside0.mk (Kd.R_below HO.out hb5)
      have HB5 := Aside0.mk (below_step HB.out hb5)
      clear hb5 HO HB
      have hlen := Aside0.mk (filled_len 1 n k hk)
      obtain ⟨go13, co13, eo13, gb13, gl13, cl13, HG13⟩ := Kd.R_form HO5.out (by rw [hlen.out]; omega)
      injection eo13 with ea_ en_ ec_
      subst ea_ ec_
      have GB13 := Aside0.mk gb13
      clear gb13 gl13 cl13 HG13 en_
      obtain ⟨hx13, hf13⟩ := Kd.R_celln 0 HO5.out (k : Int) i0 i1
      rw [Int.toNat_natCast] at hx13 hf13
      have HP := Aside0.mk (Kd.R_putg HO5.out (k : Int) (wt 1 k n))
      have HS := Aside0.mk (filled_set 1 n k hlt)
      generalize wt 1 (k : Int) (n : Int) = wv at *
      go_wp2_with (first | ((with_reducible refine gate_store (t := 3) (p := 36) rfl ?_); refine store_event (t := 3) (p := 36) (v := ?vo_w15) (w1 := (w5.setCell ⟨go13, k, none⟩ (.int .i64 wv))) ?hg ?ho ?hn ?hr ?_; (case ho => rfl); (case hg => rfl); (case hn => rfl); (case hr => first | (go_simp; done) | (go_simp; rfl)); intro w15 hw; have hp_ := Aside0.mk (show Kd.R (Kd.int .i64) 3 w15 w.heap.size (fun _ => True) (.slice (some ⟨go13, 0, none⟩) n co) (filled 1 n (k + 1)) by rw [hw, ← HS.out]; exact HP.out.1); have n1_ := Aside0.mk ((by rw [hw]; exact below_set (HB5.out) GB13.out : Below w.heap.size w w15)); clear HO5; clear HB5; have HO := hp_; have HB := n1_; clear n1_; clear hw hp_))
      go_roundw
      case rel => exact ⟨k + 1, by omega, by go_num, HO, HB⟩
      case measure => simp [intOf]; omega
    · obtain rfl : k = n := by omega
      rw [filled_all] at HO
      go_wp2_with fail
      go_ret2
      exact ⟨_, rfl, HO.out, HB.out⟩

theorem ta49 (w : World) : (Instr.typeAssert (.iface 49 (.agg #[])) 20 41 true).run Try.prog w = .ok (.tuple #[.iface 49 (.agg #[]), .bool true]) w := by kernel_rfl
theorem me49 (w : World) : (method 167 49 (.agg #[]) "serinette/window.at").run Try.prog w = .ok (38, .agg #[]) w := by kernel_rfl
theorem hill_wt (i n : Int) (w : World) (i0 : 0 ≤ i) (i1 : i < n) (n1 : n ≤ 65535) : Calls Try.prog 38 #[.agg #[], .int .i64 i, .int .i64 n] w fun e w' => e = .returned (.int .i64 (wt 2 i n)) ∧ Below w.heap.size w w' := hill_at i n w i0 i1 n1
theorem weight_hill (i n : Int) (w : World) (i0 : 0 ≤ i) (i1 : i < n) (n1 : n ≤ 65535) : Calls Try.prog 10 #[.int .i64 2, .int .i64 i, .int .i64 n] w fun e w' => e = .returned (.tuple #[.int .i64 (wt 2 i n), .int .i64 0]) ∧ Below w.heap.size w w' := by
  have k := ta49
  have k2 := me49
  go_enter Try.func10, Try.ntmps10
  go_wp2_with fail
  refine (named_hill _).mono ?_
  rintro e w1 ⟨rfl, rfl⟩
  go_wp2_with fail
  refine (hill_wt _ _ _ i0 i1 n1).mono ?_
  rintro e w1 ⟨rfl, hb1⟩
  have HB := Aside0.mk hb1
  clear hb1
  go_wp2_with fail
  go_ret2
  exact ⟨rfl, HB.out⟩
theorem weight_hill_bad (i n : Int) (w : World) (h : n < 1 ∨ 65535 < n ∨ i < 0 ∨ n ≤ i) : Calls Try.prog 10 #[.int .i64 2, .int .i64 i, .int .i64 n] w fun e w' => e = .returned (.tuple #[.int .i64 0, .int .i64 1]) ∧ Below w.heap.size w w' := by
  have k := ta49
  by_cases c1 : n < 1
  · have b1 : decide (n < 1) = true := decide_eq_true c1
    clear h c1
    go_enter Try.func10, Try.ntmps10
    go_wp2_with fail
    refine (named_hill _).mono ?_
    rintro e w1 ⟨rfl, rfl⟩
    go_wp2_with fail
    go_ret2
    exact ⟨rfl, Below.refl _ _⟩
  · have b1 : decide (n < 1) = false := decide_eq_false c1
    by_cases c2 : 65535 < n
    · have b2 : decide (65535 < n) = true := decide_eq_true c2
      clear h c1 c2
      go_enter Try.func10, Try.ntmps10
      go_wp2_with fail
      refine (named_hill _).mono ?_
      rintro e w1 ⟨rfl, rfl⟩
      go_wp2_with fail
      go_ret2
      exact ⟨rfl, Below.refl _ _⟩
    · have b2 : decide (65535 < n) = false := decide_eq_false c2
      by_cases c3 : i < 0
      · have b3 : decide (i < 0) = true := decide_eq_true c3
        clear h c1 c2 c3
        go_enter Try.func10, Try.ntmps10
        go_wp2_with fail
        refine (named_hill _).mono ?_
        rintro e w1 ⟨rfl, rfl⟩
        go_wp2_with fail
        go_ret2
        exact ⟨rfl, Below.refl _ _⟩
      · have b3 : decide (i < 0) = false := decide_eq_false c3
        have b4 : decide (n ≤ i) = true := decide_eq_true (by omega)
        clear h c1 c2 c3
        go_enter Try.func10, Try.ntmps10
        go_wp2_with fail
        refine (named_hill _).mono ?_
        rintro e w1 ⟨rfl, rfl⟩
        go_wp2_with fail
        go_ret2
        exact ⟨rfl, Below.refl _ _⟩
theorem weights_hill_bad (n : Int) (w : World) (h : n < 0 ∨ 65535 < n) : Calls Try.prog 12 #[.int .i64 2, .int .i64 n] w fun e w' => e = .returned (.tuple #[.slice none 0 0, .int .i64 1]) ∧ Below w.heap.size w w' := by
  have k := ta49
  by_cases c1 : n < 0
  · have b1 : decide (n < 0) = true := decide_eq_true c1
    clear h c1
    go_enter Try.func12, Try.ntmps12
    go_wp2_with fail
    refine (named_hill _).mono ?_
    rintro e w1 ⟨rfl, rfl⟩
    go_wp2_with fail
    go_ret2
    exact ⟨rfl, Below.refl _ _⟩
  · have b1 : decide (n < 0) = false := decide_eq_false c1
    have b2 : decide (65535 < n) = true := decide_eq_true (by omega)
    clear h c1
    go_enter Try.func12, Try.ntmps12
    go_wp2_with fail
    refine (named_hill _).mono ?_
    rintro e w1 ⟨rfl, rfl⟩
    go_wp2_with fail
    go_ret2
    exact ⟨rfl, Below.refl _ _⟩
set_option maxHeartbeats 1000000 in
theorem weights_hill (n : Nat) (w : World) (n1 : n ≤ 65535) : Calls Try.prog 12 #[.int .i64 2, .int .i64 n] w fun e w' => ∃ v0_ : Value, e = .returned (.tuple #[v0_, .int .i64 0]) ∧ Kd.R (Kd.int .i64) 3 w' w.heap.size (fun _ => True) v0_ ((List.range n).map (fun (i : Nat) => wt 2 i n)) ∧ Below w.heap.size w w' := by
  have k := ta49
  have k2 := me49
  have HB := Aside0.mk (Below.refl w.heap.size w)
  obtain ⟨ys, hys⟩ : ∃ y_ : List Int, y_ = List.replicate ((n : Int) : Int).toNat 0 := ⟨_, rfl⟩
  have NY := Aside0.mk hys
  clear hys
  have n0 : (0 : Int) ≤ (n : Int) := by omega
  have n2 : (n : Int) ≤ 65535 := by omega
  go_enter Try.func12, Try.ntmps12
  go_wp2_with fail
  refine (named_hill _).mono ?_
  rintro e w1 ⟨rfl, rfl⟩
  go_wp2_with (first | ((with_reducible refine gate_dst (N := 24) rfl ?_); refine Kd.R_make (Kd.int .i64) _ 3 rfl (N := 24) rfl 26 _ _ rfl (n : Int) rfl rfl Try.underlying26 (.int .i64 0) 8 info3 rfl (by decide) (by omega) 0 (ok := fun _ => True) (okp := fun _ => True) rfl (fun _ hk => hk) trivial n0 (by omega) (Below.refl _ _) (Nat.le_refl _) ?_; intro v106 w6 ho7 hb hg_ hnew_; clear hg_ hnew_; rw [← NY.out] at ho7; have n0_ := Aside0.mk (Kd.R_lower ho7 (below_size HB.out)); have n1_ := Aside0.mk (below_step HB.out hb); clear HB; have HO := n0_; have HB := n1_; clear n0_ n1_; clear hb ho7; rw [NY.out, show List.replicate ((n : Int) : Int).toNat (0 : Int) = filled 2 n 0 by simp [filled]] at HO; obtain ⟨Ao, co, eo⟩ := Kd.R_slice HO.out; rw [filled_len 2 n 0 (Nat.zero_le _)] at eo; subst eo; clear NY))
  go_loopw [27] (fun v27 wr => ∃ k : Nat, k ≤ n ∧ v27 = .int .i64 k ∧ Aside0 (Kd.R (Kd.int .i64) 3 wr w.heap.size (fun _ => True) (.slice Ao n co) (filled 2 n k)) ∧ Aside0 (Below w.heap.size w wr)) (fun v27 _ => n - (intOf v27).toNat)
  case atStart => exact ⟨0, Nat.zero_le _, rfl, HO, HB⟩
  case round =>
    clear HO HB
    obtain ⟨k, hk, rfl, HO, HB⟩ := hrel
    by_cases hlt : k < n
    · have i0 : (0 : Int) ≤ (k : Int) := by omega
      have i1 : (k : Int) < (n : Int) := by omega
      go_wp2_with fail
      refine (hill_wt _ _ _ i0 i1 n2).mono ?_
      rintro e w5 ⟨rfl, hb5⟩
      have HO5 := Aside0.mk (Kd.R_below HO.out hb5)
      have HB5 := Aside0.mk (below_step HB.out hb5)
      clear hb5 HO HB
      have hlen := Aside0.mk (filled_len 2 n k hk)
      obtain ⟨go13, co13, eo13, gb13, gl13, cl13, HG13⟩ := Kd.R_form HO5.out (by rw [hlen.out]; omega)
      injection eo13 with ea_ en_ ec_
      subst ea_ ec_
      have GB13 := Aside0.mk gb13
      clear gb13 gl13 cl13 HG13 en_
      obtain ⟨hx13, hf13⟩ := Kd.R_celln 0 HO5.out (k : Int) i0 i1
      rw [Int.toNat_natCast] at hx13 hf13
      have HP := Aside0.mk (Kd.R_putg HO5.out (k : Int) (wt 2 k n))
      have HS := Aside0.mk (filled_set 2 n k hlt)
      generalize wt 2 (k : Int) (n : Int) = wv at *
      go_wp2_with (first | ((with_reducible refine gate_store (t := 3) (p := 36) rfl ?_); refine store_event (t := 3) (p := 36) (v := ?vo_w15) (w1 := (w5.setCell ⟨go13, k, none⟩ (.int .i64 wv))) ?hg ?ho ?hn ?hr ?_; (case ho => rfl); (case hg => rfl); (case hn => rfl); (case hr => first | (go_simp; done) | (go_simp; rfl)); intro w15 hw; have hp_ := Aside0.mk (show Kd.R (Kd.int .i64) 3 w15 w.heap.size (fun _ => True) (.slice (some ⟨go13, 0, none⟩) n co) (filled 2 n (k + 1)) by rw [hw, ← HS.out]; exact HP.out.1); have n1_ := Aside0.mk ((by rw [hw]; exact below_set (HB5.out) GB13.out : Below w.heap.size w w15)); clear HO5; clear HB5; have HO := hp_; have HB := n1_; clear n1_; clear hw hp_))
      go_roundw
      case rel => exact ⟨k + 1, by omega, by go_num, HO, HB⟩
      case measure => simp [intOf]; omega
    · obtain rfl : k = n := by omega
      rw [filled_all] at HO
      go_wp2_with fail
      go_ret2
      exact ⟨_, rfl, HO.out, HB.out⟩
end Go.Proofs.Ytkhkmeadaljhoaa.Win
