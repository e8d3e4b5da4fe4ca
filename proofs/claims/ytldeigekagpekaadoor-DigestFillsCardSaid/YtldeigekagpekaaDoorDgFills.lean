/- The walk of DigestFills. No condition beyond the table's. -/
import Derived.Test.YtldeigekagpekaaDoorDgTells
import Derived.Test.YtldeigekagpekaaDoorDgOwn
set_option linter.unusedVariables false
set_option linter.unusedSimpArgs false
namespace Go.Proofs.YtldeigekagpekaaDoor.Dg
open Go.RowKit Go.Proofs.YtldeigekagpekaaDoorW.PrintWords Go.Proofs.YtldeigekagpekaaDoorW.PrintMore
/-- n bytes, the first k of which are x. -/
def fb (n k : Nat) (x : Int) : List Int := List.replicate k x ++ List.replicate (n - k) 0
theorem fb_len (n k : Nat) (x : Int) (h : k ≤ n) : (fb n k x).length = n := by simp [fb]; omega
theorem fb_zero (n : Nat) (x : Int) : fb n 0 x = List.replicate n 0 := by simp [fb]
theorem fb_all (n : Nat) (x : Int) : fb n n x = List.replicate n x := by simp [fb]
theorem fb_set (n k : Nat) (x : Int) (h : k < n) : (fb n k x).set k x = fb n (k + 1) x := by
  unfold fb
  rw [List.set_append_right _ _ (by simp), List.length_replicate, Nat.sub_self, show n - k = (n - (k + 1)) + 1 by omega, List.replicate_succ, List.set_cons_zero, List.replicate_succ', List.append_assoc]
  rfl
theorem rep_mid (n i : Nat) (x : Int) (h : i < n) : ((List.replicate n x).take (i + 1)).drop i = [x] := by
  rw [List.take_replicate, List.drop_replicate, show min (i + 1) n - i = 1 by omega]
  rfl
set_option maxHeartbeats 4000000 in
set_option maxRecDepth 100000 in
theorem fills_any (w : World) (a x : Int) (ha : 0 ≤ a ∧ a < 256) (hx : 0 ≤ x ∧ x < 256) (ht : Tab w) :
    Calls Tryd.prog 5 #[.int .u8 a, .int .u8 x] w fun e w' => e = .returned (.bool true) ∧ Below w.heap.size w w' := by
  have HT := Aside0.mk ht
  have HX := Aside0.mk hx
  obtain ⟨a0, a1⟩ := ha
  clear hx ht
  obtain ⟨n, hn, hnl⟩ : ∃ n : Nat, a % 201 = n ∧ n ≤ 200 := ⟨(a % 201).toNat, by omega, by omega⟩
  have hn' : a.tmod 201 = (n : Int) := by rw [Int.tmod_eq_emod_of_nonneg a0]; exact hn
  have hm0 : (0 : Int) ≤ n := by omega
  have e0 : ((n : Int)).toNat = n := Int.toNat_natCast n
  have hm1 : (n : Int).toNat ≤ 281474976710656 := by omega
  go_enter Tryd.func5, Tryd.ntmps5
  go_wp2_with fail
  refine (awake_any _ HT.out).mono ?_
  rintro e w1 ⟨rfl, hb1⟩
  have BW := Aside0.mk hb1
  clear hb1
  go_wp2_with (first | ((with_reducible refine gate_dst (N := 16) rfl ?_); refine Kd.R_make (Kd.int .u8) _ 5 rfl (N := 16) rfl 22 _ _ rfl n rfl rfl Tryd.underlying22 (.int .u8 0) 1 info5 rfl (by decide) (by omega) 0 (ok := fun _ => True) (okp := fun _ => True) rfl (fun _ hk => hk) trivial hm0 (by omega) (Below.refl _ _) (Nat.le_refl _) ?_; intro v16 w2 ho hb hg_ hnew_; clear hg_ hnew_; rw [e0] at ho; have HO := Aside0.mk (Kd.R_lower ho BW.out.size); have n_ := Aside0.mk (below_step BW.out hb); clear BW; have BW := n_; clear n_; clear ho hb))
  rw [← fb_zero n x] at HO
  obtain ⟨A, c, ec⟩ := Kd.R_slice HO.out
  rw [fb_len n 0 x (by omega)] at ec
  subst ec
  go_wp2_with fail
  go_loopw [8] (fun v8 wr => ∃ k : Nat, k ≤ n ∧ v8 = .int .i64 k ∧ Aside0 (Kd.R (Kd.int .u8) 5 wr w.heap.size (fun _ => True) (.slice A n c) (fb n k x)) ∧ Aside0 (Below w.heap.size w wr)) (fun v8 _ => n - (intOf v8).toNat)
  case atStart => exact ⟨0, Nat.zero_le _, rfl, HO, BW⟩
  case round =>
    clear HO BW
    obtain ⟨k, hk, rfl, HO, BW⟩ := hrel
    by_cases hlt : k < n
    · have i0 : (0 : Int) ≤ (k : Int) := by omega
      have i1 : (k : Int) < (n : Int) := by omega
      obtain ⟨go, co, eo, gb, gl, cl, hcl⟩ := Kd.R_form HO.out (by rw [fb_len n k x hk]; omega)
      injection eo with ea en ec
      subst ea; subst ec
      have GB := Aside0.mk gb
      clear en gb gl cl hcl
      obtain ⟨hx0, hf0⟩ := Kd.R_celln 0 HO.out (k : Int) i0 i1
      rw [Int.toNat_natCast] at hx0 hf0
      have HP := Aside0.mk (Kd.R_putg HO.out (k : Int) x)
      have HS := Aside0.mk (fb_set n k x hlt)
      go_wp2_with fail
      go_roundw
      case rel => exact ⟨k + 1, by omega, by go_num, ⟨by rw [← HS.out]; exact HP.out.1⟩, ⟨below_set BW.out GB.out⟩⟩
      case measure => simp only [intOf]; omega
    · obtain rfl : k = n := by omega
      rw [fb_all] at HO
      obtain ⟨b, hb⟩ : ∃ b, b = List.replicate k x := ⟨_, rfl⟩
      have BL : Aside0 (b.length = k) := ⟨by rw [hb]; simp⟩
      have BX : Aside0 (∀ y ∈ b, 0 ≤ y ∧ y < 256) := ⟨fun y hy => by rw [hb] at hy; rw [(List.mem_replicate.1 hy).2]; exact HX.out⟩
      rw [← hb] at HO
      have HBd := Aside0.mk hb
      clear hb
      have b200 : b.length ≤ 200 := by rw [BL.out]; omega
      have B200 := Aside0.mk b200
      clear b200
      go_wp2_with fail
      refine (new_any _).mono ?_
      rintro e w2 ⟨rfl, hw2⟩
      have DS := Aside0.mk (Dg_new wr (fun _ => False))
      have GS : Aside0 (w.heap.size ≤ wr.heap.size) := ⟨BW.out.size⟩
      have n_ := Aside0.mk (below_alloc BW.out (.cells (stA 1732584193 4023233417 2562383102 271733878 (.slice none 0 0) 0) 48)); clear BW; have BW := n_; clear n_
      have n_ := Aside0.mk (Kd.R_alloc HO.out (.cells (stA 1732584193 4023233417 2562383102 271733878 (.slice none 0 0) 0) 48)); clear HO; have HO := n_; clear n_
      rw [← hw2] at DS BW HO
      clear hw2
      generalize wr.heap.size = g1 at *
      go_wp2_with fail
      go_loopw [10] (fun v10 wr => ∃ i : Nat, i ≤ k ∧ v10 = .int .i64 i ∧ Aside0 (Kd.R (Kd.int .u8) 5 wr w.heap.size (fun _ => True) (.slice A k c) b) ∧ Aside0 (Dg wr g1 (fun _ => True) (List.replicate i x)) ∧ Aside0 (Below w.heap.size w wr)) (fun v10 _ => k - (intOf v10).toNat)
      case atStart => exact ⟨0, Nat.zero_le _, rfl, HO, ⟨Dg_any DS.out⟩, BW⟩
      case round =>
        clear HO DS BW
        obtain ⟨i, hi, rfl, HO, DS, BW⟩ := hrel
        have RC := Aside0.mk (Kd.R_reads' HO.out)
        by_cases hit : i < k
        · have i0 : (0 : Int) ≤ (i : Int) := by omega
          have i1 : (i : Int) < (k : Int) := by omega
          obtain ⟨A2, hA2⟩ : ∃ A2, A2 = (if c = i then A else A.map (·.add (i * 1))) := ⟨_, rfl⟩
          have hsl : (Instr.slice 22 (.slice A k c) (some (.int .i64 (i : Int))) (some (.int .i64 ((i : Int) + 1))) none).run Tryd.prog wr = .ok (.slice A2 [x].length (c - i)) wr := by
            obtain ⟨i5, hi5, hs5⟩ := info5'
            have hC := RC.out.2.1
            have := cut_mid 22 5 .i64 .i64 Tryd.underlying22 hi5 1 hs5 A k c (i : Nat) ((i : Nat) + 1) (by omega) (by omega) (by omega) hC wr
            rw [this, hA2, Int.toNat_natCast]
            simp only [List.length_singleton]
            congr 2
            omega
          have HM : Aside0 (Kd.C (Kd.int .u8) wr A2 [x].length [x]) := ⟨by
            have h := Kd.C_mid (c := c) RC.out.2.2 (show i ≤ i + 1 by omega) (by rw [BL.out]; omega) (by rw [BL.out]; exact RC.out.2.1)
            rw [hA2]
            rw [HBd.out, rep_mid k i x hit] at h
            exact h⟩
          clear hA2
          go_wp2_with fail
          have FR : Aside0 (some g1 ≠ (Value.slice A k c).ownBlock) := ⟨by obtain ⟨A', c', h1, _⟩ := DS.out; exact Kd.R_ne HO.out h1 (by decide)⟩
          refine (Dg_add wr g1 (fun _ => True) (fun _ => True) (List.replicate i x) [x] A2 (c - i) DS.out HM.out (by have := RC.out.2.1; simp only [List.length_singleton]; omega) (fun y hy => by rw [List.mem_singleton.1 hy]; exact HX.out) (tab_below HT.out BW.out) (by simp; omega) (by simp) (fun _ _ _ => trivial) (fun _ _ _ => trivial)).mono ?_
          rintro e w5 ⟨rfl, hd, hg⟩
          have n_ : Aside0 (Dg w5 g1 (fun _ => True) (List.replicate (i + 1) x)) := ⟨by rw [List.replicate_succ']; exact hd⟩; clear DS; have DS := n_; clear n_
          have n_ := Aside0.mk (Below.grown BW.out hg BW.out.size (fun k e => by have := GS.out; injection e with e; omega)); clear BW; have BW := n_; clear n_
          have n_ := Aside0.mk (Kd.R_grown2 HO.out rfl hg (fun k e => by injection e with e; subst e; exact FR.out)); clear HO; have HO := n_; clear n_
          clear hd hg hsl RC HM FR
          go_wp2_with fail
          go_roundw
          case rel => exact ⟨i + 1, by omega, by go_num, HO, DS, BW⟩
          case measure => simp only [intOf]; omega
        · obtain rfl : i = k := by omega
          rw [← HBd.out] at DS
          have e24 := eq24 (ofP b) (ofP_len b)
          have CB : Aside0 (Kd.C (Kd.int .u8) wr A b.length b) := ⟨RC.out.2.2⟩
          have CC : Aside0 (b.length ≤ c) := ⟨by rw [BL.out]; exact RC.out.2.1⟩
          clear RC HO
          have LE := BL.out
          clear BL HBd
          subst LE
          go_wp2_with fail
          refine (Dg_sum wr g1 _ b DS.out (tab_below HT.out BW.out) (by have := B200.out; omega)).mono ?_
          rintro e w11 ⟨rfl, hb⟩
          have n_ := Aside0.mk (below_step BW.out hb); clear BW; have BW := n_; clear n_
          have n_ := Aside0.mk (Kd.C_below CB.out hb); clear CB; have CB := n_; clear n_
          clear hb
          go_wp2_with fail
          refine (refof_any w11 A c b CB.out CC.out BX.out B200.out).mono ?_
          rintro e w12 ⟨rfl, hb⟩
          have n_ := Aside0.mk (below_step BW.out hb); clear BW; have BW := n_; clear n_
          have n_ := Aside0.mk (Kd.C_below CB.out hb); clear CB; have CB := n_; clear n_
          clear hb
          go_wp2_with fail
          refine (of_any w12 A c b CB.out CC.out BX.out (tab_below HT.out BW.out) (by have := B200.out; omega)).mono ?_
          rintro e w13 ⟨rfl, hb⟩
          have n_ := Aside0.mk (below_step BW.out hb); clear BW; have BW := n_; clear n_
          have n_ := Aside0.mk (Kd.C_below CB.out hb); clear CB; have CB := n_; clear n_
          clear hb
          go_wp2_with fail
          refine (refof_any w13 A c b CB.out CC.out BX.out B200.out).mono ?_
          rintro e w14 ⟨rfl, hb⟩
          have n_ := Aside0.mk (below_step BW.out hb); clear BW; have BW := n_; clear n_
          have n_ := Aside0.mk (Kd.C_below CB.out hb); clear CB; have CB := n_; clear n_
          clear hb
          go_wp2_with fail
          go_ret
          exact ⟨rfl, BW.out⟩
end Go.Proofs.YtldeigekagpekaaDoor.Dg
