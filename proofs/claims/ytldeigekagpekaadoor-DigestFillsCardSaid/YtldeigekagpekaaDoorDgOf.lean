/- The walks of digest.Of and of awake; a state is what was added. Conditions: each lemma names its own. -/
import Derived.Test.YtldeigekagpekaaDoorDgSum
set_option linter.unusedSimpArgs false
set_option linter.unusedVariables false
namespace Go.Proofs.YtldeigekagpekaaDoor.Dg
open Go.RowKit Go.Proofs.YtldeigekagpekaaDoorW.PrintWords Go.Proofs.YtldeigekagpekaaDoorW.PrintMore
def init : Q := (1732584193, 4023233417, 2562383102, 271733878)
/-- What a state is to which so much was added. -/
def stt (l : List Int) : Q × List Int := feed init l
/-- The digest. -/
def ofP (l : List Int) : List Int := outP (sumP (stt l).1 (stt l).2 (l.length : Int))
theorem ofP_len (l : List Int) : (ofP l).length = 16 := by simp [ofP, outP, part_len]
theorem feed_feed : ∀ (k : Nat) (t : Q) (a b : List Int), a.length ≤ k → feed (feed t a).1 ((feed t a).2 ++ b) = feed t (a ++ b) := by
  intro k
  induction k using Nat.strongRecOn with
  | _ k ih =>
    intro t a b h
    by_cases h64 : 64 ≤ a.length
    · have hd : (a.drop 64).length = a.length - 64 := List.length_drop
      rw [feed_step h64, ih (k - 64) (by omega) _ _ _ (by omega), feed_step (l := a ++ b) (by rw [List.length_append]; omega)]
      rw [List.take_append_of_le_length h64, List.drop_append_of_le_length h64]
    · rw [feed_done (show a.length < 64 by omega)]
theorem stt_add (a b : List Int) : feed (stt a).1 ((stt a).2 ++ b) = stt (a ++ b) := feed_feed _ _ a b (Nat.le_refl _)
theorem stt_len (a : List Int) : (stt a).2.length < 64 := (feed_len _ init a (Nat.le_refl _)).1
/-- A state to which so much was added. -/
def Dg (w : World) (g : Nat) (ok : Nat → Prop) (l : List Int) : Prop := St w g ok (stt l).1 (stt l).2 (l.length : Int)
theorem Dg_new (W : World) (ok : Nat → Prop) : Dg (W.alloc (.cells (stA 1732584193 4023233417 2562383102 271733878 (.slice none 0 0) 0) 48)) W.heap.size ok [] :=
  ⟨none, 0, heap_alloc_last W _, Kd.C_nil _ _, Nat.le_refl _, (fun x hx => by cases hx), (fun ad h => by cases h), (by show InW init; unfold InW init; decide)⟩
theorem Dg_below {w w' : World} {g : Nat} {ok : Nat → Prop} {l : List Int} (h : Dg w g ok l) (hb : Below w.heap.size w w') : Dg w' g ok l := St_below h hb
theorem Dg_any {w : World} {g : Nat} {ok : Nat → Prop} {l : List Int} (h : Dg w g ok l) : Dg w g (fun _ => True) l := St_any h
theorem Dg_lt {w : World} {g : Nat} {ok : Nat → Prop} {l : List Int} (h : Dg w g ok l) : g < w.heap.size := by
  obtain ⟨A, c, hg, _⟩ := h
  exact blk_lt hg
theorem Dg_add (w : World) (g : Nat) (ok ok' : Nat → Prop) (l bs : List Int) (B : Option Addr) (cb : Nat) (hs : Dg w g ok l) (hb : Kd.C (Kd.int .u8) w B bs.length bs) (hc : bs.length ≤ cb) (hx : ∀ x ∈ bs, 0 ≤ x ∧ x < 256)
    (ht : Tab w) (hl : l.length ≤ 1000000) (hbl : bs.length ≤ 1000000) (hok : bs = [] → ∀ k, ok k → ok' k) (hnew : bs ≠ [] → ∀ k, w.heap.size ≤ k → ok' k) :
    Calls Tryd.prog 13 #[.pointer (some ⟨g, 0, none⟩), .slice B bs.length cb] w fun e w' => e = .returned (.tuple #[]) ∧ Dg w' g ok' (l ++ bs) ∧ w.grownBy w' (some g) := by
  refine (add_any w g ok ok' (stt l).1 (stt l).2 bs l.length B cb hs hb hc hx ht (stt_len l) hbl (by omega) (by omega) hok hnew).mono ?_
  rintro e w' ⟨rfl, h1, h2⟩
  refine ⟨rfl, ?_, h2⟩
  unfold Dg
  rw [← stt_add, List.length_append, Int.natCast_add]
  exact h1
theorem Dg_sum (w : World) (g : Nat) (ok : Nat → Prop) (l : List Int) (hs : Dg w g ok l) (ht : Tab w) (hl : l.length ≤ 1000000) :
    Calls Tryd.prog 14 #[.pointer (some ⟨g, 0, none⟩)] w fun e w' => e = .returned (.agg (dgA (ofP l))) ∧ Below w.heap.size w w' :=
  sum_any w g ok _ _ _ hs ht (stt_len l) (by omega) (by omega)
theorem Dg_len (w : World) (g : Nat) (ok : Nat → Prop) (l : List Int) (hs : Dg w g ok l) : Calls Tryd.prog 15 #[.pointer (some ⟨g, 0, none⟩)] w fun e w' => e = .returned (.int .i64 (l.length : Int)) ∧ w = w' := by
  obtain ⟨A, c, hg, _⟩ := hs
  exact len_any w g _ _ _ _ _ _ hg
set_option maxHeartbeats 4000000 in
set_option maxRecDepth 100000 in
theorem of_any (w : World) (B : Option Addr) (cb : Nat) (bs : List Int) (hb : Kd.C (Kd.int .u8) w B bs.length bs) (hc : bs.length ≤ cb) (hx : ∀ x ∈ bs, 0 ≤ x ∧ x < 256) (ht : Tab w) (hl : bs.length ≤ 1000000) :
    Calls Tryd.prog 10 #[.slice B bs.length cb] w fun e w' => e = .returned (.agg (dgA (ofP bs))) ∧ Below w.heap.size w w' := by
  have HB := Aside0.mk hb
  have HX := Aside0.mk (And.intro hc hx)
  have HT := Aside0.mk ht
  clear hb hc hx ht
  go_enter Tryd.func10, Tryd.ntmps10
  go_wp2_with fail
  have BW : Aside0 (Below w.heap.size w (w.alloc (.cells #[.int .u8 0, .int .u8 0, .int .u8 0, .int .u8 0, .int .u8 0, .int .u8 0, .int .u8 0, .int .u8 0, .int .u8 0, .int .u8 0, .int .u8 0, .int .u8 0, .int .u8 0, .int .u8 0, .int .u8 0, .int .u8 0] 24))) := ⟨below_alloc (Below.refl _ _) _⟩
  have GO : Aside0 ((w.alloc (.cells #[.int .u8 0, .int .u8 0, .int .u8 0, .int .u8 0, .int .u8 0, .int .u8 0, .int .u8 0, .int .u8 0, .int .u8 0, .int .u8 0, .int .u8 0, .int .u8 0, .int .u8 0, .int .u8 0, .int .u8 0, .int .u8 0] 24)).heap[w.heap.size]? = some (.cells zero16 24 (0, 0))) := ⟨heap_alloc_last w _⟩
  generalize w.alloc (.cells #[.int .u8 0, .int .u8 0, .int .u8 0, .int .u8 0, .int .u8 0, .int .u8 0, .int .u8 0, .int .u8 0, .int .u8 0, .int .u8 0, .int .u8 0, .int .u8 0, .int .u8 0, .int .u8 0, .int .u8 0, .int .u8 0] 24) = w1 at *
  refine (new_any _).mono ?_
  rintro e w2 ⟨rfl, hw2⟩
  have DG := Aside0.mk (Dg_new w1 (fun _ => True))
  have NE : Aside0 (w.heap.size ≤ w1.heap.size) := ⟨BW.out.size⟩
  have n_ := Aside0.mk (below_alloc BW.out (.cells (stA 1732584193 4023233417 2562383102 271733878 (.slice none 0 0) 0) 48)); clear BW; have BW := n_; clear n_
  have GS : Aside0 (w.heap.size < w1.heap.size) := ⟨blk_lt GO.out⟩
  have n_ := Aside0.mk (blk_alloc GO.out (.cells (stA 1732584193 4023233417 2562383102 271733878 (.slice none 0 0) 0) 48)); clear GO; have GO := n_; clear n_
  rw [← hw2] at DG BW GO
  clear hw2
  generalize w1.heap.size = g1 at *
  clear NE
  go_wp2_with fail
  refine (Dg_add w2 g1 (fun _ => True) (fun _ => True) [] bs B cb DG.out (Kd.C_below HB.out BW.out) HX.out.1 HX.out.2 (tab_below HT.out BW.out) (by simp) hl (fun _ _ _ => trivial) (fun _ _ _ => trivial)).mono ?_
  rintro e w3 ⟨rfl, hd3, hg3⟩
  have n_ := Aside0.mk hd3; clear DG; have DG := n_; clear n_
  have n_ := Aside0.mk (Below.grown BW.out hg3 BW.out.size (fun k e => by have := GS.out; injection e with e; omega)); clear BW; have BW := n_; clear n_
  have n_ := Aside0.mk (blk_grown GO.out hg3 (by have := GS.out; simp only [ne_eq, Option.some.injEq]; omega)); clear GO; have GO := n_; clear n_
  clear hd3 hg3
  rw [List.nil_append] at DG
  go_wp2_with fail
  refine (Dg_sum w3 g1 _ bs DG.out (tab_below HT.out BW.out) hl).mono ?_
  rintro e w4 ⟨rfl, hb4⟩
  have n_ := Aside0.mk (below_step BW.out hb4); clear BW; have BW := n_; clear n_
  have n_ := Aside0.mk ((hb4.block _ (blk_lt GO.out)).trans GO.out); clear GO; have GO := n_; clear n_
  clear hb4 DG
  go_wp2_with ((with_reducible refine gate_store rfl ?_); refine wpList_store_row rfl 24 (.tmp 2) (.tmp 9) rfl _ _ rfl rfl 24 _ GO.out ?hi1 ?ho1 ?ha1 ?_; (case hi1 => kernel_rfl); (case ho1 => rfl); (case ha1 => kernel_rfl))
  refine bodyPost_ret (results_single (r := .cell 2 24) (v := .agg (dgA (ofP bs))) rfl (.cell w.heap.size 24 (dgA (ofP bs)) (0, 0) _ rfl (setRow_heap w4 w.heap.size zero16 (dgA (ofP bs)) 24 (0, 0) GO.out) Tryd.underlying24 rfl (by kernel_rfl) .nil)) rfl ?_
  exact ⟨rfl, below_setRow BW.out (Nat.le_refl _) _⟩
end Go.Proofs.YtldeigekagpekaaDoor.Dg
