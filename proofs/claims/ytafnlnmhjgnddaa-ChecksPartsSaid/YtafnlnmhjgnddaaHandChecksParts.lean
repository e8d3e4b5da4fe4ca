/- The walk of ChecksParts: for all bytes and registers the call answers true, and what was there is as it was. No condition beyond what a Go value can be. -/
import Derived.Test.YtafnlnmhjgnddaaPChecksTellx0
import Derived.Test.YtafnlnmhjgnddaaGiven
namespace Go.Proofs.Ytafnlnmhjgnddaa.GChecksParts
open Go.RowKit Go.Proofs.YtafnlnmhjgnddaaW.PrintWords Go.Proofs.YtafnlnmhjgnddaaW.PrintLast Go.Proofs.Ytafnlnmhjgnddaa.Ck
theorem tab_below {w w1 : World} {g : Nat} (h : Tab w g) (hb : Below w.heap.size w w1) : Tab w1 g :=
  ⟨fun i hi => pw_cell_below hb (h.1 i hi), fun i hi => pw_cell_below hb (h.2 i hi)⟩
theorem u8_wf {x : Int} (h : (Lit.int .u8 x).wf = true) : 0 ≤ x ∧ x < 256 := by
  have e1 : IntKind.u8.min = 0 := by decide
  have e2 : IntKind.u8.max = 255 := by decide
  simp [Lit.wf, e1, e2] at h; omega
theorem u16_wf {x : Int} (h : (Lit.int .u16 x).wf = true) : 0 ≤ x ∧ x < 65536 := by
  have e1 : IntKind.u16.min = 0 := by decide
  have e2 : IntKind.u16.max = 65535 := by decide
  simp [Lit.wf, e1, e2] at h; omega
theorem info5 : (Try.prog.info? 5).map (fun i => (i.zero, i.size, i.bytes)) = some (some (.int .u8 0), 1, 1) := by kernel_rfl
theorem e8_append (c : Int) (a b : List Int) : e8 c (a ++ b) = e8 (e8 c a) b := by unfold e8; rw [List.foldl_append]
theorem e16_append (c : Int) (a b : List Int) : e16 c (a ++ b) = e16 (e16 c a) b := by unfold e16; rw [List.foldl_append]
def law.Pure : Prop := True
set_option maxHeartbeats 2000000 in
set_option maxRecDepth 100000 in
theorem long (A : Option Addr) (cap : Nat) (l : List Int) (A' : Option Addr) (cap' : Nat) (l' : List Int) (c d : Int) (w : World) (hl : 200 < l.length ∨ 200 < l'.length) :
    Calls Try.prog 4 #[.slice A l.length cap, .slice A' l'.length cap', .int .u8 c, .int .u16 d] w fun e w' => e = .returned (.bool true) ∧ Below w.heap.size w w' := by
  by_cases h1 : 200 < l.length
  · have t : decide (200 < (l.length : Int)) = true := decide_eq_true (by omega)
    clear hl
    go_enter Try.func4, Try.ntmps4
    go_wp2_with fail
    refine (Given.awake.calls true _ rfl).mono ?_
    rintro e w1 ⟨rfl, hb1⟩
    have HW := Aside0.mk hb1
    clear hb1
    go_wp2_with fail
    go_ret
    exact ⟨rfl, HW.out⟩
  · have t : decide (200 < (l.length : Int)) = false := decide_eq_false (by omega)
    have t' : decide (200 < (l'.length : Int)) = true := decide_eq_true (by omega)
    clear hl
    go_enter Try.func4, Try.ntmps4
    go_wp2_with fail
    refine (Given.awake.calls true _ rfl).mono ?_
    rintro e w1 ⟨rfl, hb1⟩
    have HW := Aside0.mk hb1
    clear hb1
    go_wp2_with fail
    go_ret
    exact ⟨rfl, HW.out⟩
set_option maxHeartbeats 4000000 in
set_option maxRecDepth 100000 in
theorem calls (A : Option Addr) (cap : Nat) (l : List Int) (A' : Option Addr) (cap' : Nat) (l' : List Int) (c d : Int) (w : World) (hr : Kd.C (Kd.int .u8) w A l.length l) (hc : l.length ≤ cap) (hb : ∀ x ∈ l, 0 ≤ x ∧ x < 256)
    (hr' : Kd.C (Kd.int .u8) w A' l'.length l') (hc' : l'.length ≤ cap') (hb' : ∀ x ∈ l', 0 ≤ x ∧ x < 256) (c0 : 0 ≤ c) (c1 : c < 256) (d0 : 0 ≤ d) (d1 : d < 65536) (hl : l.length ≤ 200) (hl' : l'.length ≤ 200) :
    Calls Try.prog 4 #[.slice A l.length cap, .slice A' l'.length cap', .int .u8 c, .int .u16 d] w fun e w' => e = .returned (.bool true) ∧ Below w.heap.size w w' := by
  have t : decide (200 < (l.length : Int)) = false := decide_eq_false (by omega)
  have t' : decide (200 < (l'.length : Int)) = false := decide_eq_false (by omega)
  have HR := Aside0.mk hr
  have HC := Aside0.mk hc
  have HX := Aside0.mk hb
  have HR' := Aside0.mk hr'
  have HC' := Aside0.mk hc'
  have HX' := Aside0.mk hb'
  have HXX : Aside0 (∀ x ∈ ([] ++ l) ++ l', 0 ≤ x ∧ x < 256) := ⟨fun x hx => by
    simp only [List.nil_append, List.mem_append] at hx
    rcases hx with h | h
    · exact hb x h
    · exact hb' x h⟩
  have HL : Aside0 (l.length ≤ 200 ∧ l'.length ≤ 200) := ⟨⟨hl, hl'⟩⟩
  have E8 : Aside0 (e8 c (([] ++ l) ++ l') = e8 (e8 c l) l') := ⟨by rw [List.nil_append, e8_append]⟩
  have E16 : Aside0 (e16 d (([] ++ l) ++ l') = e16 (e16 d l) l') := ⟨by rw [List.nil_append, e16_append]⟩
  have HE8 := Aside0.mk (e8_bd c l c0 c1)
  have HE16 := Aside0.mk (e16_bd d l d0 d1)
  have HC0 : Aside0 (0 ≤ c ∧ c < 256 ∧ 0 ≤ d ∧ d < 65536) := ⟨⟨c0, c1, d0, d1⟩⟩
  clear hr hc hb hr' hc' hb' hl hl'
  go_enter Try.func4, Try.ntmps4
  go_wp2_with fail
  refine (Given.awake.calls true _ rfl).mono ?_
  rintro e w1 ⟨rfl, hb1⟩
  have B1 := Aside0.mk hb1
  clear hb1
  go_wp2_with fail
  refine (build_any _).mono ?_
  rintro e w2 ⟨rfl, hb2, ht2⟩
  have B2 := Aside0.mk (below_step B1.out hb2)
  have T2 := Aside0.mk ht2
  clear hb2 ht2
  generalize w1.heap.size = g at *
  go_wp2_with fail
  refine (build_any _).mono ?_
  rintro e w3 ⟨rfl, hb3, ht3⟩
  have B3 := Aside0.mk (below_step B2.out hb3)
  have T3 := Aside0.mk (tab_below T2.out hb3)
  have U3 := Aside0.mk ht3
  clear hb3 ht3
  generalize w2.heap.size = u at *
  have HB := Aside0.mk (Below.refl w3.heap.size w3)
  have HR3 := Aside0.mk (Kd.C_below HR.out B3.out)
  have HR3' := Aside0.mk (Kd.C_below HR'.out B3.out)
  clear HR HR' B1 B2 T2
  go_wp2_with (first | ((with_reducible refine gate_dst (N := 31) rfl ?_); refine Kd.R_lit (Kd.int .u8) _ 5 ?hg (N := 31) ?hd (xs := ([] : List Int)) (inner := []) (ok := fun _ => True) (okp := fun _ => True) ?hr ?hp (fun _ hk => hk) trivial (Below.refl _ _) (Nat.le_refl _) (by simp) ?_; (case hd => rfl); (case hg => rfl); (case hr => first | (go_simp; done) | (go_simp; rfl)); (case hp => exact (Reps.none _ _)); intro v31 w_31 ho_ hb hg_ hnew_; clear hg_ hnew_; have n0_ := Aside0.mk (Kd.R_lower ho_ (below_size (by repeat (first | (with_reducible first | exact HB.out | apply below_alloc | apply pw_below_drewN | apply below_drew1) | exact HB.out)))); have n1_ := Aside0.mk (below_step (by repeat (first | (with_reducible first | exact HB.out | apply below_alloc | apply pw_below_drewN | apply below_drew1) | exact HB.out)) hb); clear HB; have HO := n0_; have HB := n1_; clear n0_ n1_; clear hb ho_) | ((with_reducible refine gate_builtin (b := .append) (xs := #[.tmp 31, .tmp 32]) rfl ?_); at_builtin; refine Kd.R_append_rows (Kd.int .u8) (w0 := w3) w3.heap.size rfl (.tmp 31) (.tmp 32) 22 5 (.int .u8 0) 1 rfl Try.underlying22 info5 rfl (by decide) (by omega) v31 [] l _ _ _ (fun _ => True) (fun _ => False) rfl rfl ?aO ?aR (fun _ _ h => h) (fun _ h => h.elim) ?aF ?aB ?aS ?aL ?_; (case aR => exact Kd.C_below HR3.out HB.out); (case aB => exact HB.out); (case aF => exact (fun _ _ => trivial)); (case aO => exact HO.out); (case aS => exact below_size HB.out); (case aL => simp; have := HL.out; omega); intro v33 w_31 ho hb hg hat; have n0_ := Aside0.mk (hb); have n1_ := Aside0.mk (ho); clear HB; clear HO; have HB := n0_; have HO := n1_; clear n0_ n1_; clear ho hb hg hat) | ((with_reducible refine gate_builtin (b := .append) (xs := #[.tmp 33, .tmp 34]) rfl ?_); at_builtin; refine Kd.R_append_rows (Kd.int .u8) (w0 := w3) w3.heap.size rfl (.tmp 33) (.tmp 34) 22 5 (.int .u8 0) 1 rfl Try.underlying22 info5 rfl (by decide) (by omega) v33 ([] ++ l) l' _ _ _ (fun _ => True) (fun _ => False) rfl rfl ?aO ?aR (fun _ _ h => h) (fun _ h => h.elim) ?aF ?aB ?aS ?aL ?_; (case aR => exact Kd.C_below HR3'.out HB.out); (case aB => exact HB.out); (case aF => exact (fun _ _ => trivial)); (case aO => exact HO.out); (case aS => exact below_size HB.out); (case aL => simp; have := HL.out; omega); intro v35 w_33 ho hb hg hat; have n0_ := Aside0.mk (hb); have n1_ := Aside0.mk (ho); clear HB; clear HO; have HB := n0_; have HO := n1_; clear n0_ n1_; clear ho hb hg hat))
  generalize ([] ++ l) ++ l' = y at *
  obtain ⟨Ao, co, eo⟩ := Kd.R_slice HO.out
  subst eo
  obtain ⟨_, hco, hco2⟩ := Kd.R_reads' HO.out
  have OC := Aside0.mk hco
  have OR := Aside0.mk hco2
  clear hco hco2 HO
  have TG := Aside0.mk (tab_below T3.out HB.out)
  have TU := Aside0.mk (tab_below U3.out HB.out)
  have RA := Aside0.mk (Kd.C_below HR3.out HB.out)
  have RB := Aside0.mk (Kd.C_below HR3'.out HB.out)
  have BB := Aside0.mk (below_step B3.out HB.out)
  clear T3 U3 HR3 HR3' HB B3
  refine (eight_any u c A cap l _ HC0.out.1 HC0.out.2.1 TU.out RA.out HC.out HX.out).mono ?_
  rintro e w6 ⟨rfl, rfl⟩
  go_wp2_with fail
  refine (eight_any g (e8 c l) A' cap' l' _ HE8.out.1 HE8.out.2 TG.out RB.out HC'.out HX'.out).mono ?_
  rintro e w6 ⟨rfl, rfl⟩
  go_wp2_with fail
  refine (eight_any g c Ao co _ _ HC0.out.1 HC0.out.2.1 TG.out OR.out OC.out HXX.out).mono ?_
  rintro e w6 ⟨rfl, rfl⟩
  rw [E8.out]
  go_wp2_with fail
  refine (sixteen_any u d A cap l _ HC0.out.2.2.1 HC0.out.2.2.2 TU.out RA.out HC.out HX.out).mono ?_
  rintro e w6 ⟨rfl, rfl⟩
  go_wp2_with fail
  refine (sixteen_any g (e16 d l) A' cap' l' _ HE16.out.1 HE16.out.2 TG.out RB.out HC'.out HX'.out).mono ?_
  rintro e w6 ⟨rfl, rfl⟩
  go_wp2_with fail
  refine (sixteen_any g d Ao co _ _ HC0.out.2.2.1 HC0.out.2.2.2 TG.out OR.out OC.out HXX.out).mono ?_
  rintro e w6 ⟨rfl, rfl⟩
  rw [E16.out]
  go_wp2_with fail
  refine (eight_any g c none 0 [] _ HC0.out.1 HC0.out.2.1 TG.out (Kd.C_nil _ _) (Nat.le_refl _) (by simp)).mono ?_
  rintro e w6 ⟨rfl, rfl⟩
  rw [show e8 c [] = c from rfl]
  go_wp2_with fail
  refine (sixteen_any g d none 0 [] _ HC0.out.2.2.1 HC0.out.2.2.2 TG.out (Kd.C_nil _ _) (Nat.le_refl _) (by simp)).mono ?_
  rintro e w6 ⟨rfl, rfl⟩
  rw [show e16 d [] = d from rfl]
  go_wp2_with fail
  go_ret
  exact ⟨rfl, BB.out⟩
theorem law.walk (_P : law.Pure) (a0 : Option Addr) (len0 cap0 : Nat) (z0 : List Int) (a1 : Option Addr) (len1 cap1 : Nat) (z1 : List Int) (a2 : Int) (a3 : Int) (w : World) (w0 : (a0 = none ∧ len0 = 0 ∧ cap0 = 0 ∧ z0 = []) ∨ ∃ x, a0 = some x ∧ len0 ≤ cap0 ∧ cap0 ≤ maxLen ∧ z0.length = cap0 ∧ (∀ i, i < z0.length → w.cell? (x.add i) = some (.int .u8 (z0.getD i 0))) ∧ ∀ n ∈ z0, (Lit.int .u8 n).wf = true) (_y0 : len0 * 1 ≤ 140737488351232)
    (w1 : (a1 = none ∧ len1 = 0 ∧ cap1 = 0 ∧ z1 = []) ∨ ∃ x, a1 = some x ∧ len1 ≤ cap1 ∧ cap1 ≤ maxLen ∧ z1.length = cap1 ∧ (∀ i, i < z1.length → w.cell? (x.add i) = some (.int .u8 (z1.getD i 0))) ∧ ∀ n ∈ z1, (Lit.int .u8 n).wf = true) (_y1 : len1 * 1 ≤ 140737488351232) (w2 : (Lit.int .u8 a2).wf = true) (w3 : (Lit.int .u16 a3).wf = true) :
    Calls Try.prog 4 #[.slice a0 len0 cap0, .slice a1 len1 cap1, .int .u8 a2, .int .u16 a3] w fun e w' => e = .returned (.bool true) ∧ Below w.heap.size w w' := by
  obtain ⟨l0, rfl, hr0, hm0, hw0, hc0⟩ := ReadsInt.ofRowC w0
  obtain ⟨l1, rfl, hr1, hm1, hw1, hc1⟩ := ReadsInt.ofRowC w1
  have b1 := u8_wf w2
  have b2 := u16_wf w3
  by_cases hl : 200 < l0.length ∨ 200 < l1.length
  · exact long a0 cap0 l0 a1 cap1 l1 a2 a3 w hl
  · exact calls a0 cap0 l0 a1 cap1 l1 a2 a3 w (Kd.C_of_reads (d := (0 : Int)) (h1 := fun _ => rfl) hr0) hc0 (fun x hx => u8_wf (hw0 x hx)) (Kd.C_of_reads (d := (0 : Int)) (h1 := fun _ => rfl) hr1) hc1 (fun x hx => u8_wf (hw1 x hx)) b1.1 b1.2 b2.1 b2.2 (by omega) (by omega)
end Go.Proofs.Ytafnlnmhjgnddaa.GChecksParts
