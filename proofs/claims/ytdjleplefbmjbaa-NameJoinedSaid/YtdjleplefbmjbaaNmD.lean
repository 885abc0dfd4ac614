/-
  A name's labels, lists of texts, a name without its first label: the program's, the document's.
-/
import Derived.Test.YtdjleplefbmjbaaNmC
import Derived.Test.YtdjleplefbmjbaaPri
namespace Go.Proofs.Ytdjleplefbmjbaa
open Go.RowKit
set_option linter.unusedSimpArgs false
set_option linter.unusedVariables false
theorem labels_w (s : Bs) (hm : s.length ≤ 70000) (w : World) : Calls Try.prog 30 #[.string ⟨s.toArray⟩] w (Rets fun r w' =>
    ∃ ao cap, r = .slice ao (cutL s).length cap ∧ w'.ownsRow w.heap.size 9 1 (.slice ao (cutL s).length cap) (cutL s).length (strs (cutL s)) ∧ Upd0 w w') := by
  have hmm : s.length ≤ maxLen := by unfold maxLen; omega
  go_enter Try.func30, Try.ntmps30
  go_wp2_with (first
    | (go_at_call 43; (with_reducible refine (cut_any s hmm _).use ?_); rintro v w1 ⟨ao, cap, rfl, hr, hb1⟩; have hu1 := Upd0.of_below hb1; have hrh := Lib.hid hr; clear hr)
    | (with_reducible refine wp_serial (by kernel_rfl) (by kernel_rfl) (by (repeat (first | (with_reducible apply NoBad.then) | (with_reducible apply NoBad.inBlock) | (with_reducible exact NoBad.rets))); done) ?_) | fail)
  all_goals go_returns
  all_goals exact ⟨ao, cap, rfl, hrh.out, (by (repeat (first | (with_reducible exact Upd.refl _ _) | (with_reducible assumption) | (with_reducible apply Upd.drew) | (with_reducible apply Upd.alloc) | (refine Upd0.tr ?_ (by with_reducible assumption)) | (refine Upd.setCell ?_ (fun h => absurd h (by first | exact Nat.lt_irrefl _ | (simp only []; omega))) _))); done)⟩
theorem rlabels_w (s : Bs) (hm : s.length ≤ 70000) (w : World) : Calls Try.prog 31 #[.string ⟨s.toArray⟩] w (Rets fun r w' =>
    ∃ ao cap, r = .slice ao (cutL s).length cap ∧ w'.ownsRow w.heap.size 9 1 (.slice ao (cutL s).length cap) (cutL s).length (strs (cutL s)) ∧ Upd0 w w') := by
  have hmm : s.length ≤ maxLen := by unfold maxLen; omega
  go_enter Try.func31, Try.ntmps31
  go_wp2_with (first
    | (go_at_call 47; (with_reducible refine (rcut_any s hmm _).use ?_); rintro v w1 ⟨ao, cap, rfl, hr, hu1⟩; have hrh := Lib.hid hr; clear hr)
    | (with_reducible refine wp_serial (by kernel_rfl) (by kernel_rfl) (by (repeat (first | (with_reducible apply NoBad.then) | (with_reducible apply NoBad.inBlock) | (with_reducible exact NoBad.rets))); done) ?_) | fail)
  all_goals go_returns
  all_goals exact ⟨ao, cap, rfl, hrh.out, (by (repeat (first | (with_reducible exact Upd.refl _ _) | (with_reducible assumption) | (with_reducible apply Upd.drew) | (with_reducible apply Upd.alloc) | (refine Upd0.tr ?_ (by with_reducible assumption)) | (refine Upd.setCell ?_ (fun h => absurd h (by first | exact Nat.lt_irrefl _ | (simp only []; omega))) _))); done)⟩
set_option maxRecDepth 100000 in
theorem rtexts2_w (ao bo : Option Addr) (ca cb : Nat) (L M : List Bs) (w : World) (hL : SR w ao L) (hM : SR w bo M) (h1 : L.length ≤ 1000000) (h2 : M.length ≤ 1000000) :
    Calls Try.prog 29 #[.slice ao L.length ca, .slice bo M.length cb] w (Rets fun r w' => r = .bool (L == M) ∧ Upd0 w w') := by
  by_cases hlen : L.length = M.length
  · have hle1 : L.length ≤ M.length := by omega
    have hle2 : M.length ≤ L.length := by omega
    have hnn : ((L.length : Int) != (M.length : Int)) = false := by rw [bne_eq_false_iff_eq]; omega
    clear hlen
    go_enter Try.func29, Try.ntmps29
    go_wp2_with (first | (with_reducible refine wp_serial (by kernel_rfl) (by kernel_rfl) (by (repeat (first | (with_reducible apply NoBad.then) | (with_reducible apply NoBad.inBlock) | (with_reducible exact NoBad.rets))); done) ?_) | fail)
    go_loopw [5] (fun i wr => ∃ k : Nat, k ≤ L.length ∧ i = .int .i64 k ∧ Upd0 w wr ∧ Hid (L.take k = M.take k)) (fun i _ => L.length - (intOf i).toNat)
    case atStart => exact ⟨0, Nat.zero_le _, rfl, Upd.refl _ _, Lib.hid rfl⟩
    case round =>
      obtain ⟨k, hk, rfl, hu, hl⟩ := hrel
      by_cases hlt : k < L.length
      · obtain ⟨g, o, rfl, hg, hcs⟩ := (hL.up hu).some hlt
        obtain ⟨x, hx⟩ : ∃ x, L[k]? = some x := ⟨L[k], List.getElem?_eq_getElem hlt⟩
        have hc := hcs k x hx
        clear hcs
        obtain ⟨g2, o2, rfl, hg2, hcs2⟩ := (hM.up hu).some (show k < M.length by omega)
        obtain ⟨y, hy⟩ : ∃ y, M[k]? = some y := ⟨M[k], List.getElem?_eq_getElem (by omega)⟩
        have hc2 := hcs2 k y hy
        clear hcs2
        by_cases h0 : x = y
        · subst h0
          have hst := Lib.hid (show L.take (k + 1) = M.take (k + 1) by
            rw [List.take_succ_eq_append_getElem hlt, List.take_succ_eq_append_getElem (show k < M.length by omega), hl.out, (List.getElem?_eq_some_iff.1 hx).2, (List.getElem?_eq_some_iff.1 hy).2])
          clear hx hy
          go_wp2_with (first | (with_reducible refine wp_serial (by kernel_rfl) (by kernel_rfl) (by (repeat (first | (with_reducible apply NoBad.then) | (with_reducible apply NoBad.inBlock) | (with_reducible exact NoBad.rets))); done) ?_) | fail)
          go_roundw
          case rel => exact ⟨k + 1, by omega, by go_num, (by (repeat (first | (with_reducible exact Upd.refl _ _) | (with_reducible assumption) | (with_reducible apply Upd.drew) | (with_reducible apply Upd.alloc) | (refine Upd0.tr ?_ (by with_reducible assumption)) | (refine Upd.setCell ?_ (fun h => absurd h (by first | exact Nat.lt_irrefl _ | (simp only []; omega))) _))); done), Lib.hid hst.out⟩
          case measure => simp [intOf]; omega
        · have hst := Lib.hid (beq_ne hx hy h0)
          have hbq : (x == y) = false := beq_eq_false_iff_ne.2 h0
          clear hx hy
          go_wp2_with (first | (with_reducible refine wp_serial (by kernel_rfl) (by kernel_rfl) (by (repeat (first | (with_reducible apply NoBad.then) | (with_reducible apply NoBad.inBlock) | (with_reducible exact NoBad.rets))); done) ?_) | fail)
          all_goals go_returns
          all_goals exact ⟨by rw [hst.out]; rfl, (by (repeat (first | (with_reducible exact Upd.refl _ _) | (with_reducible assumption) | (with_reducible apply Upd.drew) | (with_reducible apply Upd.alloc) | (refine Upd0.tr ?_ (by with_reducible assumption)) | (refine Upd.setCell ?_ (fun h => absurd h (by first | exact Nat.lt_irrefl _ | (simp only []; omega))) _))); done)⟩
      · have hst := Lib.hid (show (L == M) = true by
          rw [beq_iff_eq]
          have := hl.out
          rwa [List.take_of_length_le (by omega), List.take_of_length_le (by omega)] at this)
        go_wp2_with (first | (with_reducible refine wp_serial (by kernel_rfl) (by kernel_rfl) (by (repeat (first | (with_reducible apply NoBad.then) | (with_reducible apply NoBad.inBlock) | (with_reducible exact NoBad.rets))); done) ?_) | fail)
        all_goals go_returns
        all_goals exact ⟨by rw [hst.out]; rfl, (by (repeat (first | (with_reducible exact Upd.refl _ _) | (with_reducible assumption) | (with_reducible apply Upd.drew) | (with_reducible apply Upd.alloc) | (refine Upd0.tr ?_ (by with_reducible assumption)) | (refine Upd.setCell ?_ (fun h => absurd h (by first | exact Nat.lt_irrefl _ | (simp only []; omega))) _))); done)⟩
  · have hst := Lib.hid (show (L == M) = false by rw [beq_eq_false_iff_ne]; rintro rfl; exact hlen rfl)
    have hnn : ((L.length : Int) != (M.length : Int)) = true := by rw [bne_iff_ne]; omega
    clear hlen
    go_enter Try.func29, Try.ntmps29
    go_wp2_with (first | (with_reducible refine wp_serial (by kernel_rfl) (by kernel_rfl) (by (repeat (first | (with_reducible apply NoBad.then) | (with_reducible apply NoBad.inBlock) | (with_reducible exact NoBad.rets))); done) ?_) | fail)
    all_goals go_returns
    all_goals exact ⟨by rw [hst.out]; rfl, (by (repeat (first | (with_reducible exact Upd.refl _ _) | (with_reducible assumption) | (with_reducible apply Upd.drew) | (with_reducible apply Upd.alloc) | (refine Upd0.tr ?_ (by with_reducible assumption)) | (refine Upd.setCell ?_ (fun h => absurd h (by first | exact Nat.lt_irrefl _ | (simp only []; omega))) _))); done)⟩
/-- a name without its first label -/
def upS (s : Bs) : Bs := if cutB s then s.drop ((s.headD 0).toNat + 1) else []
def upC (s : Bs) : Int := if cutB s then (if s = [] then 5 else 0) else 1
set_option maxRecDepth 100000 in
theorem parent_w (s : Bs) (hm : s.length ≤ 70000) (w : World) : Calls Try.prog 25 #[.string ⟨s.toArray⟩] w (Rets fun r w' => r = .tuple #[.string ⟨(upS s).toArray⟩, .int .i64 (upC s)] ∧ Upd0 w w') := by
  have hmm : s.length ≤ maxLen := by unfold maxLen; omega
  cases hb : cutB s with
  | false =>
    have hC := Lib.hid (show checkC s = _ by rw [checkC, hb])
    have hf := Lib.hid (show upS s = [] ∧ upC s = 1 by rw [upS, upC, hb]; exact ⟨rfl, rfl⟩)
    clear hb
    go_enter Try.func25, Try.ntmps25
    go_wp2_with (first
      | (go_at_call 23; (with_reducible refine (check_any s hmm _).use ?_); rintro v w1 ⟨rfl, hu1⟩; rw [hC.out])
      | (with_reducible refine wp_serial (by kernel_rfl) (by kernel_rfl) (by (repeat (first | (with_reducible apply NoBad.then) | (with_reducible apply NoBad.inBlock) | (with_reducible exact NoBad.rets))); done) ?_) | fail)
    all_goals go_returns
    all_goals exact ⟨by rw [hf.out.1, hf.out.2]; rfl, (by (repeat (first | (with_reducible exact Upd.refl _ _) | (with_reducible assumption) | (with_reducible apply Upd.drew) | (with_reducible apply Upd.alloc) | (refine Upd0.tr ?_ (by with_reducible assumption)) | (refine Upd.setCell ?_ (fun h => absurd h (by first | exact Nat.lt_irrefl _ | (simp only []; omega))) _))); done)⟩
  | true =>
    have hC := Lib.hid (show checkC s = _ by rw [checkC, hb])
    cases s with
    | nil =>
      go_enter Try.func25, Try.ntmps25
      go_wp2_with (first
        | (go_at_call 23; (with_reducible refine (check_any [] hmm _).use ?_); rintro v w1 ⟨rfl, hu1⟩; rw [hC.out])
        | (with_reducible refine wp_serial (by kernel_rfl) (by kernel_rfl) (by (repeat (first | (with_reducible apply NoBad.then) | (with_reducible apply NoBad.inBlock) | (with_reducible exact NoBad.rets))); done) ?_) | fail)
      all_goals go_returns
      all_goals exact ⟨rfl, (by (repeat (first | (with_reducible exact Upd.refl _ _) | (with_reducible assumption) | (with_reducible apply Upd.drew) | (with_reducible apply Upd.alloc) | (refine Upd0.tr ?_ (by with_reducible assumption)) | (refine Upd.setCell ?_ (fun h => absurd h (by first | exact Nat.lt_irrefl _ | (simp only []; omega))) _))); done)⟩
    | cons k t =>
      obtain ⟨h1, h2, h3⟩ := okL_iff.1 (par_facts hb).1
      have hf := Lib.hid (show upS (k :: t) = (k :: t).drop (k.toNat + 1) ∧ upC (k :: t) = 0 by rw [upS, upC, hb]; exact ⟨rfl, rfl⟩)
      clear hb
      simp only [List.length_cons] at hm
      go_enter Try.func25, Try.ntmps25
      go_wp2_with (first
        | (go_at_call 23; (with_reducible refine (check_any (k :: t) hmm _).use ?_); rintro v w1 ⟨rfl, hu1⟩; rw [hC.out])
        | (with_reducible refine wp_serial (by kernel_rfl) (by kernel_rfl) (by (repeat (first | (with_reducible apply NoBad.then) | (with_reducible apply NoBad.inBlock) | (with_reducible exact NoBad.rets))); done) ?_) | fail)
      all_goals go_returns
      all_goals exact ⟨by rw [hf.out.1, hf.out.2]; rfl, (by (repeat (first | (with_reducible exact Upd.refl _ _) | (with_reducible assumption) | (with_reducible apply Upd.drew) | (with_reducible apply Upd.alloc) | (refine Upd0.tr ?_ (by with_reducible assumption)) | (refine Upd.setCell ?_ (fun h => absurd h (by first | exact Nat.lt_irrefl _ | (simp only []; omega))) _))); done)⟩
theorem sr_tail {w : World} {g o : Nat} {x : Bs} {L : List Bs} (h : SR w (some ⟨g, o, none⟩) (x :: L)) : SR w (some ⟨g, o + 1, none⟩) L := by
  rcases h with h | ⟨g', o', h1, h2, h3⟩
  · cases h
  · cases h1
    exact .inr ⟨g, o + 1, rfl, h2, fun i y hy => by rw [show o + 1 + i = o + (i + 1) by omega]; exact h3 (i + 1) y hy⟩
theorem up_join {s : Bs} {x : Bs} {L : List Bs} (h : cutB s = true) (hL : cutL s = x :: L) : jnS L = upS s ∧ jnC L = 0 ∧ upC s = 0 := by
  cases s with
  | nil => cases hL
  | cons k t =>
    obtain ⟨h1, h2, h3⟩ := par_facts h
    rw [hL, List.cons.injEq] at h3
    obtain ⟨h4, h5⟩ := cut_lab h2
    obtain ⟨h6, h7⟩ := lab_jn _ _ h5
    have hB : jnB L = true := by rw [h3.2, jnB, h7, h6, decide_eq_true h4]; rfl
    rw [jnS, jnC, hB, upS, upC, h]
    refine ⟨?_, rfl, rfl⟩
    show jn L = _
    rw [h3.2, h6]; simp
set_option maxRecDepth 100000 in
theorem rparent_w (s : Bs) (hm : s.length ≤ 70000) (w : World) : Calls Try.prog 26 #[.string ⟨s.toArray⟩] w (Rets fun r w' => r = .tuple #[.string ⟨(upS s).toArray⟩, .int .i64 (upC s)] ∧ Upd0 w w') := by
  have hmm : s.length ≤ maxLen := by unfold maxLen; omega
  cases hb : cutB s with
  | false =>
    have hf := Lib.hid (show upS s = [] ∧ upC s = 1 by rw [upS, upC, hb]; exact ⟨rfl, rfl⟩)
    have hbh := Lib.hid hb
    clear hb
    go_enter Try.func26, Try.ntmps26
    go_wp2_with (first
      | (go_at_call 47; (with_reducible refine (rcut_any s hmm _).use ?_); rintro v w1 ⟨ao, cap, rfl, hr, hu1⟩; rw [hbh.out]; have hrh := Lib.hid hr; clear hr)
      | (with_reducible refine wp_serial (by kernel_rfl) (by kernel_rfl) (by (repeat (first | (with_reducible apply NoBad.then) | (with_reducible apply NoBad.inBlock) | (with_reducible exact NoBad.rets))); done) ?_) | fail)
    all_goals go_returns
    all_goals exact ⟨by rw [hf.out.1, hf.out.2]; rfl, (by (repeat (first | (with_reducible exact Upd.refl _ _) | (with_reducible assumption) | (with_reducible apply Upd.drew) | (with_reducible apply Upd.alloc) | (refine Upd0.tr ?_ (by with_reducible assumption)) | (refine Upd.setCell ?_ (fun h => absurd h (by first | exact Nat.lt_irrefl _ | (simp only []; omega))) _))); done)⟩
  | true =>
    have hbh := Lib.hid hb
    have hll := (lab_join (cut_lab hb).2)
    obtain ⟨L, hL⟩ : ∃ L, cutL s = L := ⟨_, rfl⟩
    have hLh := Lib.hid hL
    rw [hL] at hll
    cases L with
    | nil =>
      have hf := Lib.hid (show upS s = [] ∧ upC s = 5 by
        have : s = [] := by rw [← (lab_jn s _ (cut_lab hb).2).1, hL]; rfl
        subst this; exact ⟨rfl, rfl⟩)
      clear hb hL
      go_enter Try.func26, Try.ntmps26
      go_wp2_with (first
        | (go_at_call 47; (with_reducible refine (rcut_any s hmm _).use ?_); rintro v w1 ⟨ao, cap, rfl, hr, hu1⟩; rw [hbh.out]; rw [hLh.out] at hr ⊢; have hrh := Lib.hid hr; clear hr)
        | (with_reducible refine wp_serial (by kernel_rfl) (by kernel_rfl) (by (repeat (first | (with_reducible apply NoBad.then) | (with_reducible apply NoBad.inBlock) | (with_reducible exact NoBad.rets))); done) ?_) | fail)
      all_goals go_returns
      all_goals exact ⟨by rw [hf.out.1, hf.out.2]; rfl, (by (repeat (first | (with_reducible exact Upd.refl _ _) | (with_reducible assumption) | (with_reducible apply Upd.drew) | (with_reducible apply Upd.alloc) | (refine Upd0.tr ?_ (by with_reducible assumption)) | (refine Upd.setCell ?_ (fun h => absurd h (by first | exact Nat.lt_irrefl _ | (simp only []; omega))) _))); done)⟩
    | cons x L =>
      obtain ⟨j1, j2, j3⟩ := up_join hb hL
      have hf := Lib.hid (And.intro j1 (And.intro j2 j3))
      clear hb hL j1 j2 j3
      simp only [List.length_cons] at hll
      go_enter Try.func26, Try.ntmps26
      go_wp2_with (first
        | (go_at_call 47; (with_reducible refine (rcut_any s hmm _).use ?_); rintro v w1 ⟨ao, cap, rfl, hr, hu1⟩; rw [hbh.out]; rw [hLh.out] at hr ⊢; have hrh := Lib.hid hr; clear hr; obtain ⟨g, rfl⟩ := ownsRow_some hrh.out (by simp); have hcap := ownsRow_cap hrh.out; simp only [List.length_cons] at hcap; obtain ⟨hcap1, hcap2⟩ := hcap; unfold maxLen at hcap2; have hsr1 : SR w1 (some ⟨g, 1, none⟩) L := sr_tail (own_sr hrh.out rfl))
        | (go_at_call 33; (first | (have hsr0 : SR w1 (some ⟨g, 0, none⟩) L := .inl (List.eq_nil_of_length_eq_zero (by omega))) | skip); (first | (with_reducible refine (rjoin_w _ _ L w1 hsr1 (by omega)).use ?_) | (with_reducible refine (rjoin_w _ _ L w1 hsr0 (by omega)).use ?_)); rintro v w2 ⟨rfl, hu2⟩; rw [hf.out.1, hf.out.2.1])
        | (with_reducible refine wp_serial (by kernel_rfl) (by kernel_rfl) (by (repeat (first | (with_reducible apply NoBad.then) | (with_reducible apply NoBad.inBlock) | (with_reducible exact NoBad.rets))); done) ?_) | fail)
      all_goals go_returns
      all_goals exact ⟨by rw [hf.out.2.2]; rfl, (by (repeat (first | (with_reducible exact Upd.refl _ _) | (with_reducible assumption) | (with_reducible apply Upd.drew) | (with_reducible apply Upd.alloc) | (refine Upd0.tr ?_ (by with_reducible assumption)) | (refine Upd.setCell ?_ (fun h => absurd h (by first | exact Nat.lt_irrefl _ | (simp only []; omega))) _))); done)⟩
end Go.Proofs.Ytdjleplefbmjbaa
