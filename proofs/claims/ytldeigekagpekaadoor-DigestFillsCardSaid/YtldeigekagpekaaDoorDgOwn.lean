/- The walk of DigestOwn. No condition beyond the table's. -/
import Derived.Test.YtldeigekagpekaaDoorDgAwk
set_option linter.unusedVariables false
set_option linter.unusedSimpArgs false
namespace Go.Proofs.YtldeigekagpekaaDoor.Dg
open Go.RowKit Go.Proofs.YtldeigekagpekaaDoorW.PrintWords Go.Proofs.YtldeigekagpekaaDoorW.PrintMore
theorem below_of_grown {w w' : World} (h : w.grownBy w' none) : Below w.heap.size w w' := ⟨h.os, h.tape, h.output, h.size, fun k hk => h.block k hk (by simp)⟩
/-- What is written beside a state does nothing to it. -/
theorem Dg_row {w w' : World} {g b : Nat} {ok : Nat → Prop} {l : List Int} (h : Dg w g ok l) (hg : w.grownBy w' (some b)) (hne : g ≠ b) (hok : ∀ k, ok k → k ≠ b) : Dg w' g ok l := by
  obtain ⟨A, c, h1, h2, h3, h4, h5, h6⟩ := h
  exact ⟨A, c, blk_grown h1 hg (by simp only [ne_eq, Option.some.injEq]; exact hne), C_grown h2 hg (fun ad e hp => hok _ (h5 ad e hp)), h3, h4, h5, h6⟩
theorem long4 (w : World) (A : Option Addr) (cap : Nat) (l : List Int) (x : Int) (ht : Tab w) (hl : 100 < l.length) :
    Calls Tryd.prog 4 #[.slice A l.length cap, .int .u8 x] w fun e w' => e = .returned (.bool true) ∧ Below w.heap.size w w' := by
  have HT := Aside0.mk ht
  have t : (100 : Int) < (l.length : Int) := by omega
  clear ht
  go_enter Tryd.func4, Tryd.ntmps4
  go_wp2_with fail
  refine (awake_any _ HT.out).mono ?_
  rintro e w1 ⟨rfl, hb1⟩
  have BW := Aside0.mk hb1
  clear hb1
  go_wp2_with fail
  go_ret
  exact ⟨rfl, BW.out⟩
set_option maxHeartbeats 4000000 in
set_option maxRecDepth 100000 in
theorem own_any (w : World) (A : Option Addr) (cap : Nat) (l : List Int) (x : Int) (hr : Kd.C (Kd.int .u8) w A l.length l) (hc : l.length ≤ cap) (hx : ∀ x ∈ l, 0 ≤ x ∧ x < 256) (ht : Tab w) (hl : l.length ≤ 100) :
    Calls Tryd.prog 4 #[.slice A l.length cap, .int .u8 x] w fun e w' => e = .returned (.bool true) ∧ Below w.heap.size w w' := by
  have HR := Aside0.mk hr
  have HT := Aside0.mk ht
  have HX := Aside0.mk (And.intro hc hx)
  have HL := Aside0.mk hl
  have t : ¬ (100 : Int) < (l.length : Int) := by omega
  clear hr hc hx ht hl
  go_enter Tryd.func4, Tryd.ntmps4
  go_wp2_with fail
  refine (awake_any _ HT.out).mono ?_
  rintro e w1 ⟨rfl, hb1⟩
  have BW := Aside0.mk hb1
  clear hb1
  go_wp2_with fail
  refine (new_any _).mono ?_
  rintro e w2 ⟨rfl, hw2⟩
  have DS := Aside0.mk (Dg_new w1 (fun _ => False))
  have GS : Aside0 (w.heap.size ≤ w1.heap.size) := ⟨BW.out.size⟩
  have n_ := Aside0.mk (below_alloc BW.out (.cells (stA 1732584193 4023233417 2562383102 271733878 (.slice none 0 0) 0) 48)); clear BW; have BW := n_; clear n_
  rw [← hw2] at DS BW
  clear hw2
  generalize w1.heap.size = g1 at *
  go_wp2_with (first | ((with_reducible refine gate_dst (N := 17) rfl ?_); refine Kd.R_lit (Kd.int .u8) _ 5 ?hg (N := 17) ?hd (xs := ([] : List Int)) (inner := []) (ok := fun _ => True) (okp := fun _ => True) ?hr ?hp (fun _ hk => hk) trivial (Below.refl _ _) (Nat.le_refl _) (by simp) ?_; (case hd => rfl); (case hg => rfl); (case hr => first | (go_simp; done) | (go_simp; rfl)); (case hp => exact (Reps.none _ _)); intro v17 w4 ho5 hb5 hg5 hnew5; have n0_ := Aside0.mk (Kd.R_lower ho5 BW.out.size); have n1_ := Aside0.mk (below_step BW.out hb5); clear BW; have HO := n0_; have BW := n1_; clear n0_ n1_; have n0_ := Aside0.mk (Dg_below DS.out (below_of_grown hg5)); have G17 : Aside0 (∃ b, v17.ownBlock = some b ∧ g1 < b) := ⟨by obtain ⟨b, h1, h2⟩ := hnew5; exact ⟨b, h1, Nat.lt_of_lt_of_le (Dg_lt DS.out) h2⟩⟩; clear DS; have DS := n0_; clear n0_; clear ho5 hb5 hg5 hnew5) | ((with_reducible refine gate_builtin (b := .append) (xs := #[.tmp 17, .tmp 18]) rfl ?_); at_builtin; refine Kd.R_append_rows (Kd.int .u8) (w0 := w) w.heap.size rfl (.tmp 17) (.tmp 18) 22 5 (.int .u8 0) 1 rfl Tryd.underlying22 info5 rfl (by decide) (by omega) v17 [] l _ _ _ (fun _ => True) (fun _ => False) rfl rfl ?aO ?aR (fun _ _ h => h) (fun _ h => h.elim) ?aF ?aB ?aS ?aL ?_; (case aR => exact (Kd.C_below HR.out BW.out)); (case aB => exact BW.out); (case aF => exact (fun _ _ => trivial)); (case aO => exact HO.out); (case aS => exact BW.out.size); (case aL => have := HL.out; simp only [List.length_nil]; omega); intro v19 w6 ho hb hg hat; rw [List.nil_append] at ho; have n0_ := Aside0.mk (Dg_row DS.out (b := G17.out.choose) (by rw [← G17.out.choose_spec.1]; exact hg) (Nat.ne_of_lt G17.out.choose_spec.2) (fun _ h => h.elim)); clear DS; have DS := n0_; clear n0_; have n0_ := Aside0.mk hb; have n1_ := Aside0.mk ho; clear BW; clear HO; have BW := n0_; have HO := n1_; clear n0_ n1_; clear ho hb hg hat))
  obtain ⟨A6, c6, e6⟩ := Kd.R_slice HO.out
  subst e6
  have FR : Aside0 (∀ k, (Value.slice A6 l.length c6).ownBlock = some k → g1 ≠ k) := ⟨fun k hk e => by
    obtain ⟨cs, hcs⟩ := Kd.R_typed HO.out k hk
    obtain ⟨A', c', h1, _⟩ := DS.out
    rw [← e, h1] at hcs
    simp at hcs⟩
  have R6 := Aside0.mk (Kd.R_reads' HO.out)
  go_wp2_with fail
  have SZ : Aside0 (∀ k, (Value.slice A6 l.length c6).ownBlock = some k → k < w6.heap.size) := ⟨fun k hk => Kd.R_lt HO.out k hk⟩
  obtain ⟨sz, hsz⟩ : ∃ sz, sz = w6.heap.size := ⟨_, rfl⟩
  rw [← hsz] at SZ
  have HSZ := Aside0.mk hsz
  clear hsz
  refine (Dg_add w6 g1 (fun _ => False) (fun k => sz ≤ k) [] l A6 c6 DS.out R6.out.2.2 R6.out.2.1 HX.out.2 (tab_below HT.out BW.out) (by simp) (by have := HL.out; omega) (fun _ _ h => h.elim) (fun _ k hk => by rw [HSZ.out]; exact hk)).mono ?_
  rintro e w7 ⟨rfl, hd, hg⟩
  have n_ := Aside0.mk hd; clear DS; have DS := n_; clear n_
  have n_ := Aside0.mk (Below.grown BW.out hg BW.out.size (fun k e => by have := GS.out; injection e with e; omega)); clear BW; have BW := n_; clear n_
  have n_ := Aside0.mk (Kd.R_grown2 HO.out rfl hg (fun k e => by injection e with e; subst e; exact fun e => FR.out _ e.symm rfl)); clear HO; have HO := n_; clear n_
  clear hd hg R6 HSZ
  rw [List.nil_append] at DS
  go_wp2_with fail
  go_loopw [8] (fun v8 wr => ∃ k : Nat, k ≤ l.length ∧ v8 = .int .i64 k ∧ Aside0 (∃ l', l'.length = l.length ∧ Kd.R (Kd.int .u8) 5 wr w.heap.size (fun _ => True) (.slice A6 l.length c6) l') ∧ Aside0 (Dg wr g1 (fun k => sz ≤ k) l) ∧ Aside0 (Below w.heap.size w wr)) (fun v8 _ => l.length - (intOf v8).toNat)
  case atStart => exact ⟨0, Nat.zero_le _, rfl, ⟨l, rfl, HO.out⟩, DS, BW⟩
  case round =>
    clear HO DS BW
    obtain ⟨k, hk, rfl, HO, DS, BW⟩ := hrel
    by_cases hlt : k < l.length
    · obtain ⟨l', hl', ho⟩ := HO.out
      have hl0 := HL.out
      have i0 : (0 : Int) ≤ (k : Int) := by omega
      have i1 : (k : Int) < (l.length : Int) := by omega
      rw [← hl'] at ho
      obtain ⟨go, co, eo, gb, gl, cl, hcl⟩ := Kd.R_form ho (by omega)
      injection eo with ea en ec
      subst ea; subst ec
      clear en
      have GB := Aside0.mk gb
      have NE : Aside0 (g1 ≠ go) := ⟨FR.out go (by simp [Value.ownBlock])⟩
      have LT : Aside0 (go < sz) := ⟨SZ.out go (by simp [Value.ownBlock])⟩
      obtain ⟨hx0, hf0⟩ := Kd.R_celln 0 ho (k : Int) i0 (by omega)
      rw [Int.toNat_natCast] at hx0 hf0
      have HP := Aside0.mk (fun v => Kd.R_putg ho (k : Int) v)
      rw [hl'] at HP
      have HL' := Aside0.mk hl'
      clear ho HO gb gl cl hcl hl' hl0
      go_wp2_with fail
      go_roundw
      case rel =>
        exact ⟨k + 1, by omega, by go_num, ⟨_, by rw [List.length_set]; exact HL'.out, (HP.out _).1⟩, ⟨Dg_row DS.out (grown_set (World.grownBy.refl wr (some go)) k _) NE.out (fun j hj e => by have := LT.out; omega)⟩, ⟨below_set BW.out GB.out⟩⟩
      case measure => simp only [intOf]; omega
    · obtain rfl : k = l.length := by omega
      have e24 := eq24 (ofP l) (ofP_len l)
      go_wp2_with fail
      refine (Dg_sum wr g1 _ l DS.out (tab_below HT.out BW.out) (by have := HL.out; omega)).mono ?_
      rintro e w8 ⟨rfl, hb⟩
      have n_ := Aside0.mk (below_step BW.out hb); clear BW; have BW := n_; clear n_
      clear hb
      go_wp2_with fail
      refine (of_any w8 A cap l (Kd.C_below HR.out BW.out) HX.out.1 HX.out.2 (tab_below HT.out BW.out) (by have := HL.out; omega)).mono ?_
      rintro e w9 ⟨rfl, hb⟩
      have n_ := Aside0.mk (below_step BW.out hb); clear BW; have BW := n_; clear n_
      clear hb
      go_wp2_with fail
      go_ret
      exact ⟨rfl, BW.out⟩
end Go.Proofs.YtldeigekagpekaaDoor.Dg
