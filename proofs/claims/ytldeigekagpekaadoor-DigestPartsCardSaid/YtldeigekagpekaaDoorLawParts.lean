/- The tied card of DigestParts: for all inputs the call answers true and each argument reads as it read. Conditions: none beyond what a Go value can be; the table of package digest reads as the program's text lays it (tied by the card). The card ties it to the pruned copy of the project; it says nothing of the project's other packages. -/
import Derived.Test.YtldeigekagpekaaDoorDgLaid
import Derived.Test.YtldeigekagpekaaDoorDgParts
import Derived.Deep.Matrix
namespace Go.Proofs.YtldeigekagpekaaDoor.digestParts
open Go.ChangeShapes Go.WideShapes Go.ChangeAt Go.RowKit
open Go.Proofs.YtldeigekagpekaaDoor.Dg
set_option linter.unusedVariables false
theorem u8_wf {x : Int} (h : (Lit.int .u8 x).wf = true) : 0 ≤ x ∧ x < 256 := by
  have e1 : IntKind.u8.min = 0 := by decide
  have e2 : IntKind.u8.max = 255 := by decide
  simp [Lit.wf, e1, e2] at h; omega
def IsRow (k : IntKind) (w : World) (a : Option Addr) (len cap : Nat) (zs : List Int) : Prop :=
  (a = none ∧ len = 0 ∧ cap = 0 ∧ zs = []) ∨
  ∃ x, a = some x ∧ len ≤ cap ∧ cap ≤ maxLen ∧ zs.length = cap ∧ (∀ i, i < zs.length → w.cell? (x.add i) = some (.int k (zs.getD i 0))) ∧ ∀ n ∈ zs, (Lit.int k n).wf = true
theorem walk (a0 : Option Addr) (len0 cap0 : Nat) (w : World) (h0 : 0 < len0 → ∃ ad, a0 = some ad) (A : Nat → Option Addr) (L C : Nat → Nat) (Z : Nat → List Int)
    (hr : ∀ r, r < len0 → (∀ ad, a0 = some ad → w.cell? (ad.add r) = some (.slice (A r) (L r) (C r))) ∧ IsRow .u8 w (A r) (L r) (C r) (Z r)) (ht : Tab w) :
    Calls Tryd.prog 6 #[.slice a0 len0 cap0] w fun e w' => e = .returned (.bool true) ∧ Below w.heap.size w w' := by
  by_cases hl : 10 < len0
  · exact long6 w a0 len0 cap0 ht hl
  have each : ∀ r, r < len0 → ∃ l : List Int, L r = l.length ∧ Go.Proofs.YtldeigekagpekaaDoorW.PrintWords.Kd.C (Go.Proofs.YtldeigekagpekaaDoorW.PrintWords.Kd.int .u8) w (A r) l.length l ∧ l.length ≤ C r ∧ ∀ x ∈ l, 0 ≤ x ∧ x < 256 := fun r hlt => by
    obtain ⟨l, e, h1, _, h3, h4⟩ := Go.Proofs.YtldeigekagpekaaDoorW.PrintWords.ReadsInt.ofRowC (hr r hlt).2
    exact ⟨l, e, Go.Proofs.YtldeigekagpekaaDoorW.PrintWords.Kd.C_of_reads (d := (0 : Int)) (h1 := fun _ => rfl) h1, h4, fun x hx => u8_wf (h3 x hx)⟩
  obtain ⟨R, hR⟩ := Go.Deep.choose_lt each
  refine parts_any w a0 len0 cap0 A C R (by omega) (fun hp => ?_) (fun r hlt => (hR r hlt).2) ht
  obtain ⟨ad, e⟩ := h0 hp
  exact ⟨ad, e, fun r hlt => by rw [(hr r hlt).1 ad e, (hR r hlt).1]⟩
set_option maxRecDepth 100000 in
theorem lifted (os : Os) (started : os.Started) (H : Type) (enc : TypeId × Value → H) :
    ReturnsInHanded {} Tryd.checked os 6 .any (fun w args => (Rows.digestPartsSpec.pre enc Tryd.prog Tryd.f6 [] false w args ∧ laidMetH Tryd.prog lay w) ∧ sizedMet enc Tryd.prog Tryd.f6 (OpenSpec.ofChange Rows.digestPartsSpec) false w args)
      (Rows.digestPartsSpec.post enc Tryd.prog Tryd.f6 false true false false) := by
  refine returnsInHanded_of_change_and (C := Tryd.checked) (X := fun w _ => laidMetH Tryd.prog lay w) (fun _ _ _ hh h => h.of_heap hh) own started (by kernel_rfl) Tryd.func6
    (ChangeSpec.witness_shaped (enc := enc) (C := Tryd.checked) (os := os) (X := fun w _ => laidMetH Tryd.prog lay w) false (World.doorLaid Tryd.prog 400 os) #[.slice none 0 0] 8 rfl (World.shaped_of_RefB (by kernel_rfl) (by kernel_rfl)) (by kernel_rfl) (by kernel_rfl) (by kernel_rfl) (door_met os _)) ?_
  intro W base args ds gs before hval0 hW _ _ hL _
  have hval : ∀ (j : Nat) t v, Tryd.f6.params[j]? = some t → args[j]? = some v → Value.okWide Tryd.prog W .any base t v := hval0
  have hW' := hW
  obtain ⟨p, q, hA0, hV, rfl, hfz, hnd⟩ := hW
  have hA : DataW.TrodAll enc Tryd.prog W 0 (fun _ => true) true Tryd.f6.params.toList args.toList ds p := hA0
  rw [Tryd.params6] at hA hval
  obtain ⟨v0, vs0, d0, ds0, p0, q0, hargs, rfl, rfl, h0, r0⟩ := trodAll_cons hA
  obtain ⟨rfl, rfl, rfl⟩ := trodAll_nil r0
  obtain rfl : args = #[v0] := by cases args; simp_all
  obtain ⟨rfl, rfl⟩ := trodVars_none hV
  have k0 := h0
  have lt0 : ∀ x ∈ p0, x.block < W.heap.size := by obtain ⟨m, hm⟩ := k0; exact DataW.trod_lt m _ _ _ hm
  obtain ⟨a0, len0, cap0, rfl⟩ := okWide_slice Tryd.underlying33 (hval 0 33 v0 rfl rfl)
  obtain ⟨A, L, C, Z, hz, hrow⟩ : ∃ (A : Nat → Option Addr) (L C : Nat → Nat) (Z : Nat → List Int), (0 < len0 → ∃ ad, a0 = some ad) ∧ ∀ r, r < len0 → (∀ ad, a0 = some ad → W.cell? (ad.add r) = some (.slice (A r) (L r) (C r))) ∧ IsRow .u8 W (A r) (L r) (C r) (Z r) := by
    obtain ⟨fuel, hf⟩ := h0
    rcases Go.Deep.open_int_rows Tryd.underlying33 Tryd.underlying22 Tryd.underlying5 (by kernel_rfl) (by kernel_rfl) hf with ⟨hcs, _⟩ | ⟨a, len, cap, A, L, C, Z, hcs, _, hl, hm, _, hcell⟩
    · simp [Value.cells] at hcs
      obtain ⟨rfl, rfl, rfl⟩ := hcs
      exact ⟨fun _ => none, fun _ => 0, fun _ => 0, fun _ => [], fun h => by omega, fun r h => by omega⟩
    · simp [Value.cells] at hcs
      obtain ⟨rfl, rfl, rfl⟩ := hcs
      refine ⟨A, L, C, Z, fun _ => ⟨a, rfl⟩, fun r hr => ?_⟩
      obtain ⟨c1, c2, c3, c4, c5, c6, c7⟩ := hcell r (by omega)
      refine ⟨fun ad e => by injection e with e; rw [← e]; exact c1, ?_⟩
      rcases hA : A r with _ | a'
      · have e0 := c6 hA
        exact .inl ⟨rfl, by omega, e0, List.eq_nil_of_length_eq_zero (by rw [c4]; exact e0)⟩
      · exact .inr ⟨a', rfl, c2, c3, c4, fun i hi => (c7 a' hA).2 i (by rw [← c4]; exact hi), c5⟩
  clear hA0 hval0
  refine (walk a0 len0 cap0 W hz A L C Z hrow (tab_of_laid hL)).mono fun e W' ⟨he, bel⟩ => ?_
  subst he
  exact ⟨_, rfl, _, _, _, [], _, [], hW', trodAll_mk1 (shut_bool Tryd.underlying4 _), (trodAll_cons_mk (Below.trod laidOut (by kernel_rfl) (of_decide_eq_true (by kernel_rfl)) k0 bel lt0) trodAll_mk0), rfl, bel.frame _, fun h => by cases h⟩
theorem over : Rows.DigestPartsSaid :=
  OpenClaim.holds_of_wide 6 Tryd.f6 rfl rfl rfl rfl rfl rfl rfl ⟨rfl, rfl, rfl, rfl, rfl⟩ rfl rfl rfl rfl rfl (by kernel_rfl) Tryd.func6 (by kernel_rfl)
    (of_decide_eq_true (by kernel_rfl)) (by unfold Func.isWrapper; first | (rw [if_pos (by decide +kernel)]; kernel_rfl) | (rw [if_neg (by decide +kernel)]; exact ⟨rfl, rfl⟩))
    (fun os started H enc _ => lifted os started H enc)
theorem card : Rows.DigestPartsCardSaid :=
  Claim7.holds_tied_plain_at .later [] [.data] true (true, "2929330b3f3fd4a181287e526137f4014d7773c181e14ea99d4789c08bf8a44c") false
    over (fun _ h => by cases h) (by kernel_rfl) (fun _ h => by cases h) digestParts_row_tie rfl ⟨rfl, rfl⟩ (by kernel_rfl) rfl
    (fun f fn hf hfn => by
      obtain rfl : f = 6 := Option.some.inj ((show Tryd.prog.funcNamed "serinette/serinettelaw05.DigestParts" = some 6 by kernel_rfl).symm.trans hf) |>.symm
      obtain rfl : fn = Tryd.f6 := (Option.some.inj (Tryd.func6.symm.trans hfn)).symm
      exact ⟨by kernel_rfl, fun j t ht => by
        rw [Tryd.params6] at ht
        have hm : t ∈ [33] := by simpa using Array.mem_of_getElem? ht
        have hall : ([33].all fun u => !Tryd.prog.wantsStandIn u) = true := by kernel_rfl
        exact (show Tryd.prog.wantsStandIn t = false by simpa using List.all_eq_true.1 hall t hm)⟩)
    (by kernel_rfl)
#print axioms card
end Go.Proofs.YtldeigekagpekaaDoor.digestParts
namespace Go.Proofs.YtldeigekagpekaaDoor
/-- The card, under a short name, for the claim. -/
theorem digestParts_holds : Rows.DigestPartsCardSaid := digestParts.card
end Go.Proofs.YtldeigekagpekaaDoor
