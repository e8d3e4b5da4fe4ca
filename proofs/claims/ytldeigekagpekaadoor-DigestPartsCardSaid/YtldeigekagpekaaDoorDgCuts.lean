/- The walk of DigestCuts. No condition beyond the table's. -/
import Derived.Test.YtldeigekagpekaaDoorDgAwk
set_option linter.unusedSimpArgs false
set_option linter.unusedVariables false
namespace Go.Proofs.YtldeigekagpekaaDoor.Dg
open Go.RowKit Go.Proofs.YtldeigekagpekaaDoorW.PrintWords Go.Proofs.YtldeigekagpekaaDoorW.PrintMore
theorem cut_to (A : Option Addr) (n c hi : Nat) (h1 : hi ≤ c) (W : World) : (Instr.slice 22 (.slice A n c) none (some (.int .i64 (hi : Int))) none).run Tryd.prog W = .ok (.slice A hi c) W := by
  obtain ⟨i5, hi5, hs5⟩ := info5'
  have hel : Tryd.prog.elem 22 = 5 := by simp [Program.elem, Tryd.underlying22]
  have hu : Tryd.prog.underlying 22 = some (.slice (Tryd.prog.elem 22)) := by rw [hel]; exact Tryd.underlying22
  rw [run_slice_h W 22 A n c hu .i64 (hi : Int) (by omega) (by omega), hel]
  simp [sizeOf, typeInfo, hi5, hs5, sliced, Result.andThen]
  intro _
  cases A <;> simp [Addr.add]
/-- What is added to one state does nothing to another one. -/
theorem Dg_grown {w w' : World} {g g' : Nat} {ok ok' : Nat → Prop} {l l' : List Int} (h : Dg w g' ok l) (k : Dg w g ok' l') (hg : w.grownBy w' (some g)) (hne : g' ≠ g) : Dg w' g' ok l := by
  obtain ⟨A, c, h1, h2, h3, h4, h5, h6⟩ := h
  obtain ⟨A', c', k1, _⟩ := k
  exact ⟨A, c, blk_grown h1 hg (by simp only [ne_eq, Option.some.injEq]; exact hne), C_grown h2 hg (C_far (by simp) k1 h2), h3, h4, h5, h6⟩
theorem long8 (w : World) (A : Option Addr) (cap : Nat) (l : List Int) (a c : Int) (ht : Tab w) (hl : 200 < l.length) :
    Calls Tryd.prog 8 #[.slice A l.length cap, .int .u8 a, .int .u8 c] w fun e w' => e = .returned (.bool true) ∧ Below w.heap.size w w' := by
  have HT := Aside0.mk ht
  have t : (200 : Int) < (l.length : Int) := by omega
  clear ht
  go_enter Tryd.func8, Tryd.ntmps8
  go_wp2_with fail
  refine (awake_any _ HT.out).mono ?_
  rintro e w1 ⟨rfl, hb1⟩
  have BW := Aside0.mk hb1
  clear hb1
  go_wp2_with fail
  go_ret
  exact ⟨rfl, BW.out⟩
set_option maxHeartbeats 4000000 in
set_option maxRecDepth 100000 in
theorem cuts_any (w : World) (A : Option Addr) (cap : Nat) (l : List Int) (a c : Int) (hr : Kd.C (Kd.int .u8) w A l.length l) (hc : l.length ≤ cap) (hx : ∀ x ∈ l, 0 ≤ x ∧ x < 256) (ha : 0 ≤ a ∧ a < 256) (hcc : 0 ≤ c ∧ c < 256) (ht : Tab w) (hl : l.length ≤ 200) :
    Calls Tryd.prog 8 #[.slice A l.length cap, .int .u8 a, .int .u8 c] w fun e w' => e = .returned (.bool true) ∧ Below w.heap.size w w' := by
  have HR := Aside0.mk hr
  have HT := Aside0.mk ht
  have HX := Aside0.mk (And.intro hc (And.intro hx (And.intro ha hcc)))
  have t : ¬ (200 : Int) < (l.length : Int) := by omega
  obtain ⟨a0, a1⟩ := ha
  obtain ⟨c0, c1⟩ := hcc
  clear hr hc hx ht
  obtain ⟨i, hi, hil⟩ : ∃ i : Nat, a % ((l.length : Int) + 1) = i ∧ i ≤ l.length := ⟨(a % ((l.length : Int) + 1)).toNat, by have := Int.emod_nonneg a (show ((l.length : Int) + 1) ≠ 0 by omega); omega, by have := Int.emod_lt_of_pos a (show (0 : Int) < (l.length : Int) + 1 by omega); omega⟩
  obtain ⟨k, hk, hkl⟩ : ∃ k : Nat, c % ((l.length : Int) + 1) = k ∧ k ≤ l.length := ⟨(c % ((l.length : Int) + 1)).toNat, by have := Int.emod_nonneg c (show ((l.length : Int) + 1) ≠ 0 by omega); omega, by have := Int.emod_lt_of_pos c (show (0 : Int) < (l.length : Int) + 1 by omega); omega⟩
  have s1 : ∀ W : World, (Instr.slice 22 (.slice A l.length cap) none (some (.int .i64 (i : Int))) none).run Tryd.prog W = .ok (.slice A (l.take i).length cap) W := fun W => by rw [cut_to A l.length cap i (by have := HX.out.1; omega) W, List.length_take, Nat.min_eq_left hil]
  have s3 : ∀ W : World, (Instr.slice 22 (.slice A l.length cap) none (some (.int .i64 (k : Int))) none).run Tryd.prog W = .ok (.slice A (l.take k).length cap) W := fun W => by rw [cut_to A l.length cap k (by have := HX.out.1; omega) W, List.length_take, Nat.min_eq_left hkl]
  obtain ⟨A2, hA2⟩ : ∃ A2, A2 = (if cap = i then A else A.map (·.add (i * 1))) := ⟨_, rfl⟩
  obtain ⟨A4, hA4⟩ : ∃ A4, A4 = (if cap = k then A else A.map (·.add (k * 1))) := ⟨_, rfl⟩
  have s2 : ∀ W : World, (Instr.slice 22 (.slice A l.length cap) (some (.int .i64 (i : Int))) none none).run Tryd.prog W = .ok (.slice A2 (l.drop i).length (cap - i)) W := fun W => by rw [cut_from A l.length cap i hil W, List.length_drop, hA2]
  have s4 : ∀ W : World, (Instr.slice 22 (.slice A l.length cap) (some (.int .i64 (k : Int))) none none).run Tryd.prog W = .ok (.slice A4 (l.drop k).length (cap - k)) W := fun W => by rw [cut_from A l.length cap k hkl W, List.length_drop, hA4]
  have C1 := Aside0.mk (Kd.C_take HR.out hil)
  have C3 := Aside0.mk (Kd.C_take HR.out hkl)
  have C2 : Aside0 (Kd.C (Kd.int .u8) w A2 (l.drop i).length (l.drop i)) := ⟨by rw [hA2]; exact Kd.C_drop HR.out hil HX.out.1⟩
  have C4 : Aside0 (Kd.C (Kd.int .u8) w A4 (l.drop k).length (l.drop k)) := ⟨by rw [hA4]; exact Kd.C_drop HR.out hkl HX.out.1⟩
  have HL : Aside0 (l.length ≤ 200) := ⟨hl⟩
  have HIL := Aside0.mk hil
  have HKL := Aside0.mk hkl
  obtain ⟨l1, hl1⟩ : ∃ l1, l1 = l.take i := ⟨_, rfl⟩
  obtain ⟨l2, hl2⟩ : ∃ l2, l2 = l.drop i := ⟨_, rfl⟩
  obtain ⟨l3, hl3⟩ : ∃ l3, l3 = l.take k := ⟨_, rfl⟩
  obtain ⟨l4, hl4⟩ : ∃ l4, l4 = l.drop k := ⟨_, rfl⟩
  have E12 : Aside0 (l1 ++ l2 = l) := ⟨by rw [hl1, hl2, List.take_append_drop]⟩
  have E34 : Aside0 (l3 ++ l4 = l) := ⟨by rw [hl3, hl4, List.take_append_drop]⟩
  have M1 : Aside0 (l1.length ≤ cap) := ⟨by rw [hl1, List.length_take]; have := HX.out.1; omega⟩
  have M2 : Aside0 (l2.length ≤ cap - i) := ⟨by rw [hl2, List.length_drop]; have := HX.out.1; omega⟩
  have M3 : Aside0 (l3.length ≤ cap) := ⟨by rw [hl3, List.length_take]; have := HX.out.1; omega⟩
  have M4 : Aside0 (l4.length ≤ cap - k) := ⟨by rw [hl4, List.length_drop]; have := HX.out.1; omega⟩
  have N1 : Aside0 (l1.length ≤ 200) := ⟨by rw [hl1, List.length_take]; omega⟩
  have N2 : Aside0 (l2.length ≤ 200) := ⟨by rw [hl2, List.length_drop]; omega⟩
  have N3 : Aside0 (l3.length ≤ 200) := ⟨by rw [hl3, List.length_take]; omega⟩
  have N4 : Aside0 (l4.length ≤ 200) := ⟨by rw [hl4, List.length_drop]; omega⟩
  have X1 : Aside0 (∀ x ∈ l1, 0 ≤ x ∧ x < 256) := ⟨fun x hx => HX.out.2.1 x (by rw [hl1] at hx; exact List.mem_of_mem_take hx)⟩
  have X2 : Aside0 (∀ x ∈ l2, 0 ≤ x ∧ x < 256) := ⟨fun x hx => HX.out.2.1 x (by rw [hl2] at hx; exact List.mem_of_mem_drop hx)⟩
  have X3 : Aside0 (∀ x ∈ l3, 0 ≤ x ∧ x < 256) := ⟨fun x hx => HX.out.2.1 x (by rw [hl3] at hx; exact List.mem_of_mem_take hx)⟩
  have X4 : Aside0 (∀ x ∈ l4, 0 ≤ x ∧ x < 256) := ⟨fun x hx => HX.out.2.1 x (by rw [hl4] at hx; exact List.mem_of_mem_drop hx)⟩
  rw [← hl1] at s1 C1
  rw [← hl2] at s2 C2
  rw [← hl3] at s3 C3
  rw [← hl4] at s4 C4
  clear hl1 hl2 hl3 hl4 hA2 hA4 hil hkl
  go_enter Tryd.func8, Tryd.ntmps8
  go_wp2_with fail
  refine (awake_any _ HT.out).mono ?_
  rintro e w1 ⟨rfl, hb1⟩
  have BW := Aside0.mk hb1
  clear hb1
  go_wp2_with fail
  refine (new_any _).mono ?_
  rintro e w2 ⟨rfl, hw2⟩
  have DS := Aside0.mk (Dg_new w1 (fun _ => True))
  have GS : Aside0 (w.heap.size ≤ w1.heap.size) := ⟨BW.out.size⟩
  have n_ := Aside0.mk (below_alloc BW.out (.cells (stA 1732584193 4023233417 2562383102 271733878 (.slice none 0 0) 0) 48)); clear BW; have BW := n_; clear n_
  rw [← hw2] at DS BW
  clear hw2
  generalize w1.heap.size = g1 at *
  go_wp2_with fail
  refine (new_any _).mono ?_
  rintro e w3 ⟨rfl, hw3⟩
  have DT := Aside0.mk (Dg_new w2 (fun _ => True))
  have GT : Aside0 (g1 < w2.heap.size) := ⟨Dg_lt DS.out⟩
  have n_ := Aside0.mk (below_alloc BW.out (.cells (stA 1732584193 4023233417 2562383102 271733878 (.slice none 0 0) 0) 48)); clear BW; have BW := n_; clear n_
  have n_ := Aside0.mk (Dg_below DS.out (below_alloc (Below.refl _ _) (.cells (stA 1732584193 4023233417 2562383102 271733878 (.slice none 0 0) 0) 48))); clear DS; have DS := n_; clear n_
  rw [← hw3] at DS DT BW
  clear hw3
  generalize w2.heap.size = g2 at *
  go_wp2_with fail
  have KG := Aside0.mk DS.out
  refine (Dg_add w3 g1 (fun _ => True) (fun _ => True) [] l1 A cap DS.out (Kd.C_below C1.out BW.out) M1.out X1.out (tab_below HT.out BW.out) (by simp) (by have := N1.out; omega) (fun _ _ _ => trivial) (fun _ _ _ => trivial)).mono ?_
  rintro e w4 ⟨rfl, hd, hg⟩
  have n_ := Aside0.mk hd; clear DS; have DS := n_; clear n_
  have n_ := Aside0.mk (Dg_grown DT.out KG.out hg (by have := GT.out; omega)); clear DT; have DT := n_; clear n_
  have n_ := Aside0.mk (Below.grown BW.out hg BW.out.size (fun k e => by have := GS.out; have := GT.out; injection e with e; omega)); clear BW; have BW := n_; clear n_
  clear hd hg KG
  go_wp2_with fail
  rw [List.nil_append] at DS
  have KG := Aside0.mk DS.out
  refine (Dg_add w4 g1 (fun _ => True) (fun _ => True) l1 l2 A2 (cap - i) DS.out (Kd.C_below C2.out BW.out) M2.out X2.out (tab_below HT.out BW.out) (by have := N1.out; have := N3.out; omega) (by have := N2.out; omega) (fun _ _ _ => trivial) (fun _ _ _ => trivial)).mono ?_
  rintro e w5 ⟨rfl, hd, hg⟩
  have n_ := Aside0.mk hd; clear DS; have DS := n_; clear n_
  have n_ := Aside0.mk (Dg_grown DT.out KG.out hg (by have := GT.out; omega)); clear DT; have DT := n_; clear n_
  have n_ := Aside0.mk (Below.grown BW.out hg BW.out.size (fun k e => by have := GS.out; have := GT.out; injection e with e; omega)); clear BW; have BW := n_; clear n_
  clear hd hg KG
  go_wp2_with fail
  rw [E12.out] at DS
  have KG := Aside0.mk DT.out
  refine (Dg_add w5 g2 (fun _ => True) (fun _ => True) [] l3 A cap DT.out (Kd.C_below C3.out BW.out) M3.out X3.out (tab_below HT.out BW.out) (by simp) (by have := N3.out; omega) (fun _ _ _ => trivial) (fun _ _ _ => trivial)).mono ?_
  rintro e w6 ⟨rfl, hd, hg⟩
  have n_ := Aside0.mk hd; clear DT; have DT := n_; clear n_
  have n_ := Aside0.mk (Dg_grown DS.out KG.out hg (by have := GT.out; omega)); clear DS; have DS := n_; clear n_
  have n_ := Aside0.mk (Below.grown BW.out hg BW.out.size (fun k e => by have := GS.out; have := GT.out; injection e with e; omega)); clear BW; have BW := n_; clear n_
  clear hd hg KG
  go_wp2_with fail
  rw [List.nil_append] at DT
  have KG := Aside0.mk DT.out
  refine (Dg_add w6 g2 (fun _ => True) (fun _ => True) l3 l4 A4 (cap - k) DT.out (Kd.C_below C4.out BW.out) M4.out X4.out (tab_below HT.out BW.out) (by have := N1.out; have := N3.out; omega) (by have := N4.out; omega) (fun _ _ _ => trivial) (fun _ _ _ => trivial)).mono ?_
  rintro e w7 ⟨rfl, hd, hg⟩
  have n_ := Aside0.mk hd; clear DT; have DT := n_; clear n_
  have n_ := Aside0.mk (Dg_grown DS.out KG.out hg (by have := GT.out; omega)); clear DS; have DS := n_; clear n_
  have n_ := Aside0.mk (Below.grown BW.out hg BW.out.size (fun k e => by have := GS.out; have := GT.out; injection e with e; omega)); clear BW; have BW := n_; clear n_
  clear hd hg KG
  go_wp2_with fail
  rw [E34.out] at DT
  have e24 := eq24 (ofP l) (ofP_len l)
  refine (Dg_sum w7 g1 _ l DS.out (tab_below HT.out BW.out) (by have := HL.out; omega)).mono ?_
  rintro e w8 ⟨rfl, hb⟩
  have n_ := Aside0.mk (Dg_below DS.out hb); clear DS; have DS := n_; clear n_
  have n_ := Aside0.mk (Dg_below DT.out hb); clear DT; have DT := n_; clear n_
  have n_ := Aside0.mk (below_step BW.out hb); clear BW; have BW := n_; clear n_
  clear hb
  go_wp2_with fail
  refine (Dg_sum w8 g2 _ l DT.out (tab_below HT.out BW.out) (by have := HL.out; omega)).mono ?_
  rintro e w9 ⟨rfl, hb⟩
  have n_ := Aside0.mk (Dg_below DS.out hb); clear DS; have DS := n_; clear n_
  have n_ := Aside0.mk (Dg_below DT.out hb); clear DT; have DT := n_; clear n_
  have n_ := Aside0.mk (below_step BW.out hb); clear BW; have BW := n_; clear n_
  clear hb
  go_wp2_with fail
  refine (Dg_len w9 g1 _ l DS.out).mono ?_
  rintro e _ ⟨rfl, rfl⟩
  go_wp2_with fail
  refine (Dg_len w9 g2 _ l DT.out).mono ?_
  rintro e _ ⟨rfl, rfl⟩
  go_wp2_with fail
  refine (Dg_sum w9 g1 _ l DS.out (tab_below HT.out BW.out) (by have := HL.out; omega)).mono ?_
  rintro e w10 ⟨rfl, hb⟩
  have n_ := Aside0.mk (Dg_below DS.out hb); clear DS; have DS := n_; clear n_
  have n_ := Aside0.mk (Dg_below DT.out hb); clear DT; have DT := n_; clear n_
  have n_ := Aside0.mk (below_step BW.out hb); clear BW; have BW := n_; clear n_
  clear hb
  go_wp2_with fail
  refine (of_any w10 A cap l (Kd.C_below HR.out BW.out) HX.out.1 HX.out.2.1 (tab_below HT.out BW.out) (by have := HL.out; omega)).mono ?_
  rintro e w11 ⟨rfl, hb⟩
  have n_ := Aside0.mk (Dg_below DS.out hb); clear DS; have DS := n_; clear n_
  have n_ := Aside0.mk (Dg_below DT.out hb); clear DT; have DT := n_; clear n_
  have n_ := Aside0.mk (below_step BW.out hb); clear BW; have BW := n_; clear n_
  clear hb
  go_wp2_with fail
  go_ret
  exact ⟨rfl, BW.out⟩
end Go.Proofs.YtldeigekagpekaaDoor.Dg
