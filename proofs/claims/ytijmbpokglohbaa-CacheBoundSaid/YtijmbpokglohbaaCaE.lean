/-
  maps.DeleteFunc over the cache's entries: the walk.
-/
import Derived.Test.YtijmbpokglohbaaCaD
namespace Go.Proofs.Ytijmbpokglohbaa
open Go.RowKit Go.Maps
set_option linter.unusedSimpArgs false
set_option linter.unusedVariables false
variable {B : Nat}
theorem leftM_sub {M : List EM} {now : Int} {left : Lit → Bool} : (leftM M now left).Sublist M := List.filter_sublist
theorem keyOnly {M : List EM} (hn : NeQ (M.map EM.ke)) {m0 m : EM} (h0 : m0 ∈ M) (hm : m ∈ M) (h : m.e.nm = m0.e.nm ∧ m.e.ty = m0.e.ty) : m = m0 := by
  unfold NeQ at hn
  rw [List.pairwise_map] at hn
  induction M with
  | nil => cases hm
  | cons y M ih =>
    obtain ⟨h1, h2⟩ := List.pairwise_cons.1 hn
    rcases List.mem_cons.1 h0 with e0 | k0 <;> rcases List.mem_cons.1 hm with em | km
    · rw [e0, em]
    · subst e0; exact absurd ⟨h.1.symm, h.2.symm⟩ (h1 m km)
    · subst em; exact absurd h (h1 m0 k0)
    · exact ih h2 k0 km
theorem is_iff {nm : Bs} {ty : Int} {m : EM} : KE.is nm ty m.ke = true ↔ m.e.nm = nm ∧ m.e.ty = ty := by
  unfold KE.is EM.ke
  rw [Bool.and_eq_true, beq_iff_eq]
  exact ⟨fun h => ⟨h.1, of_decide_eq_true h.2⟩, fun h => ⟨h.1, decide_eq_true h.2⟩⟩
set_option maxRecDepth 100000 in
set_option maxHeartbeats 2000000 in
theorem delf_w (bm p : Nat) (now : Int) (M : List EM) (w : World) (hO : OwnsQ w bm (M.map EM.ke)) (hn : NeQ (M.map EM.ke)) (hE : ∀ m ∈ M, EIs w m) (hK : ∀ m ∈ M, KOk m.e.nm m.e.ty) (hp : w.heap[p]? = some (.cells #[.int .i64 now] 3 (0, 0))) :
    Calls Try.prog 82 #[.map (some bm), .func (.func 83) #[] #[.pointer (some ⟨p, 0, none⟩)]] w (Rets fun r w' =>
      OwnsQ w' bm ((M.filter fun m => !(decide (m.e.en ≤ now))).map EM.ke) ∧ Upd (fun b => b = bm) w w') := by
  have hOh := Lib.hid hO
  have hEh := Lib.hid hE
  have hKh := Lib.hid hK
  have hph := Lib.hid hp
  have hnh := Lib.hid hn
  have hbm := hO.lt
  have hpl := blk_lt hp
  clear hO hE hp hn hK
  go_enter Try.func82, Try.ntmps82
  go_wp2_with (first
    | (at_range; refine wpList_rangeQ _ rfl _ rfl bm (M.map EM.ke) rfl (OwnsQ.to hOh.out rfl) ?_; intro w4 r left hr hrg hall hg4 hs4)
    | (with_reducible refine wp_serial (by kernel_rfl) (by kernel_rfl) (by repeat with_reducible (first | apply NoBad.then | apply NoBad.inBlock | apply NoBad.jump | exact NoBad.rets)) ?_) | fail)
  have hu4 : Upd0 w w4 := (Upd.refl (fun _ => False) w).grown hg4 (fun _ h => by cases h)
  have hs4' : r < w4.heap.size := by omega
  have hrl : w.heap.size ≤ r := by omega
  have hrgh := Lib.hid (show RangesQ w4 bm r ((leftM M now left).map EM.ke) left (M.map EM.ke).length by rw [leftM_start hall]; exact hrg)
  clear hrg hall hg4 hs4 hr
  go_frame
  go_loopw [] (fun wr => ∃ (left : Lit → Bool) (cnt : Nat), Hid (RangesQ wr bm r ((leftM M now left).map EM.ke) left cnt) ∧ Upd (fun b => b = bm) w wr ∧ r < wr.heap.size) (fun wr => wr.rangeLeft bm r)
  case atStart => exact ⟨_, _, hrgh, hu4.mono (fun _ _ h => h.elim), hs4'⟩
  case round =>
    obtain ⟨left5, cnt5, hrg5, hu, hsz⟩ := hrel
    obtain ⟨⟨s1, s2, s3, hit⟩, hleft⟩ := hrg5.out.iter
    have hith := Lib.hid hit
    have hlefth := Lib.hid hleft
    have hn5 := Lib.hid (show NeQ ((leftM M now left5).map EM.ke) from hnh.out.sublist (leftM_sub.map _))
    clear hit hleft hrgh hu4 hs4'
    go_wp2_with (first
      | (at_next; refine wpList_nextQ _ rfl _ rfl bm r _ hn5.out left5 cnt5 rfl hrg5.out ?_ ?_)
      | (with_reducible refine wp_serial (by kernel_rfl) (by kernel_rfl) (by repeat with_reducible (first | apply NoBad.then | apply NoBad.inBlock | apply NoBad.jump | exact NoBad.rets)) ?_) | fail)
    · intro hall
      have hfin := Lib.hid (show OwnsQ wr bm ((M.filter fun m => !(decide (m.e.en ≤ now))).map EM.ke) by rw [← leftM_end hall]; exact hrg5.out.own)
      clear hall
      go_wp2_with (first | (with_reducible refine wp_serial (by kernel_rfl) (by kernel_rfl) (by repeat with_reducible (first | apply NoBad.then | apply NoBad.inBlock | apply NoBad.jump | exact NoBad.rets)) ?_) | fail)
      all_goals go_returns
      all_goals exact ⟨hfin.out, hu⟩
    · intro pp w5 cnt6 m0 hm0 hpe hlk hrg6 hlt hg5 hs5 hen
      subst hpe
      have hmM : m0 ∈ M := leftM_sub.subset hm0
      have hU5 : Upd (fun b => b = r) wr w5 := (Upd.refl _ _).grown hg5 (fun k h _ => by cases h; rfl)
      have hu5 : Upd (fun b => b = bm) w w5 := Upd.trans hu hU5 (fun n hn e => by omega)
      obtain ⟨⟨s4, s5, s6, hit6⟩, hleft6⟩ := hrg6.iter
      have hrg6h := Lib.hid hrg6
      have hleft6h := Lib.hid hleft6
      have hit6h := Lib.hid hit6
      have hp5 := Lib.hid (hu5.block (show ¬ p = bm from fun e => by
        obtain ⟨es, c, hc⟩ := hOh.out.blk
        rw [← e, hph.out] at hc; cases hc) hph.out)
      have hE5 := Lib.hid ((hEh.out m0 hmM).to hu5 (fun e => by
        obtain ⟨es, c, hc⟩ := hOh.out.blk
        rw [← e, (hEh.out m0 hmM).blk] at hc; cases hc) (fun g cur fz hc e => by
        obtain ⟨es, c, hc2⟩ := hOh.out.blk
        rw [e] at hc; rw [hc] at hc2; cases hc2))
      have hk0 := hKh.out m0 hmM
      have hs5' : r < w5.heap.size := by omega
      have hlth := Lib.hid hlt
      simp only [EM.ke] at hen hlk hrg6h
      clear hlk hrg6 hlt hg5 hit6 hleft6
      by_cases hd : m0.e.en ≤ now
      · have hX := Lib.hid (decide_eq_true hd)
        have hgone := Lib.hid (left_gone (M := M) (now := now) (left := left5) hKh.out hk0 (fun m hm h => by rw [keyOnly hnh.out hmM hm (is_iff.1 h)]; exact decide_eq_true hd))
        have hstay0 := Lib.hid hd
        go_wp2_with (first
          | (go_at_call 83; (with_reducible refine (over_w p now m0.e.nm m0.e.ty m0 _ (blk_alloc hp5.out) (hE5.out.to (show Upd0 w5 _ from (by repeat first | with_reducible (first | exact Upd.refl _ _ | assumption | apply Upd.drew | apply Upd.alloc) | refine Upd0.tr ?_ (by with_reducible assumption) | refine Upd.setCell ?_ (fun h => absurd h (by first | exact Nat.lt_irrefl _ | (simp only []; omega))) _)) (fun h => h) (fun _ _ _ _ h => h))).use ?_); rintro v w6 ⟨rfl, hu6⟩; rw [hX.out]; have b6 : w6.heap[wr.heap.size]? = some (.cells #[.string ⟨m0.e.nm.toArray⟩, .int .i64 m0.e.ty] 102 (0, 0)) := hu6.block (fun h => h) (alloc_last _ _ _ (by omega)); have c60 : w6.cell? ⟨wr.heap.size, 0, none⟩ = some (.string ⟨m0.e.nm.toArray⟩) := (by rw [blk_cell b6]; rfl); have c61 : w6.cell? ⟨wr.heap.size, 1, none⟩ = some (.int .i64 m0.e.ty) := (by rw [blk_cell b6]; rfl); have U6 : Upd0 w5 w6 := (by repeat first | with_reducible (first | exact Upd.refl _ _ | assumption | apply Upd.drew | apply Upd.alloc) | refine Upd0.tr ?_ (by with_reducible assumption) | refine Upd.setCell ?_ (fun h => absurd h (by first | exact Nat.lt_irrefl _ | (simp only []; omega))) _); have hrg66 := Lib.hid (hrg6h.out.to (U6.keep bm (by have := hu5.size; omega) (fun h => h)) (U6.keep r hs5' (fun h => h))); clear b6)
          | (at_delete; refine wpList_delRQ _ rfl _ _ rfl bm r _ _ cnt6 rfl hrg66.out m0.e.nm m0.e.ty rfl hk0 ?_; intro w7 cnt7 hrg7 hle hg7; have hu7 : Upd (fun b => b = bm) w6 w7 := Upd.grown (Upd.refl _ _) hg7.grown (fun _ h _ => by cases h; rfl); have hrg7h := Lib.hid hrg7; clear hrg7 hg7)
          | (with_reducible refine wp_serial (by kernel_rfl) (by kernel_rfl) (by repeat with_reducible (first | apply NoBad.then | apply NoBad.inBlock | apply NoBad.jump | exact NoBad.rets)) ?_) | fail)
        have hF : (fun z : Lit => left5 z && !z.sameKey (kl m0.e.nm m0.e.ty) && !z.sameKey (kl m0.e.nm m0.e.ty)) = fun z => left5 z && !z.sameKey (kl m0.e.nm m0.e.ty) := by
          funext z
          cases left5 z <;> cases z.sameKey (kl m0.e.nm m0.e.ty) <;> rfl
        have hrg8 := Lib.hid (show RangesQ w7 bm r ((leftM M now fun z => left5 z && !z.sameKey (kl m0.e.nm m0.e.ty)).map EM.ke) (fun z => left5 z && !z.sameKey (kl m0.e.nm m0.e.ty)) cnt7 by
          have := hrg7h.out
          rw [hgone.out, hF] at this
          exact this)
        simp only [Act.put]
        go_roundw
        case rel => exact ⟨_, _, hrg8, Upd.trans (Upd.trans hu5 U6 (fun _ _ h => h.elim)) hu7 (fun _ _ h => h), by have := U6.size; have := hu7.size; omega⟩
        case measure =>
          rw [hlefth.out, hrg8.out.iter.2]; have := hlth.out; omega
      · have hX := Lib.hid (decide_eq_false hd)
        have hstay := Lib.hid (left_stay (M := M) (now := now) (left := left5) hKh.out hk0 (fun m hm h => by rw [keyOnly hnh.out hmM hm (is_iff.1 h)]; exact decide_eq_false hd))
        go_wp2_with (first
          | (go_at_call 83; (with_reducible refine (over_w p now m0.e.nm m0.e.ty m0 _ (blk_alloc hp5.out) (hE5.out.to (show Upd0 w5 _ from (by repeat first | with_reducible (first | exact Upd.refl _ _ | assumption | apply Upd.drew | apply Upd.alloc) | refine Upd0.tr ?_ (by with_reducible assumption) | refine Upd.setCell ?_ (fun h => absurd h (by first | exact Nat.lt_irrefl _ | (simp only []; omega))) _)) (fun h => h) (fun _ _ _ _ h => h))).use ?_); rintro v w6 ⟨rfl, hu6⟩; rw [hX.out]; have b6 : w6.heap[wr.heap.size]? = some (.cells #[.string ⟨m0.e.nm.toArray⟩, .int .i64 m0.e.ty] 102 (0, 0)) := hu6.block (fun h => h) (alloc_last _ _ _ (by omega)); have c60 : w6.cell? ⟨wr.heap.size, 0, none⟩ = some (.string ⟨m0.e.nm.toArray⟩) := (by rw [blk_cell b6]; rfl); have c61 : w6.cell? ⟨wr.heap.size, 1, none⟩ = some (.int .i64 m0.e.ty) := (by rw [blk_cell b6]; rfl); have U6 : Upd0 w5 w6 := (by repeat first | with_reducible (first | exact Upd.refl _ _ | assumption | apply Upd.drew | apply Upd.alloc) | refine Upd0.tr ?_ (by with_reducible assumption) | refine Upd.setCell ?_ (fun h => absurd h (by first | exact Nat.lt_irrefl _ | (simp only []; omega))) _); have hrg66 := Lib.hid (hrg6h.out.to (U6.keep bm (by have := hu5.size; omega) (fun h => h)) (U6.keep r hs5' (fun h => h))); clear b6)
          | (with_reducible refine wp_serial (by kernel_rfl) (by kernel_rfl) (by repeat with_reducible (first | apply NoBad.then | apply NoBad.inBlock | apply NoBad.jump | exact NoBad.rets)) ?_) | fail)
        refine ⟨⟨_, _, Lib.hid (show RangesQ w6 bm r ((leftM M now fun z => left5 z && !z.sameKey (kl m0.e.nm m0.e.ty)).map EM.ke) _ _ by rw [hstay.out]; exact hrg66.out), Upd.trans hu5 U6 (fun _ _ h => h.elim), by have := U6.size; omega⟩, ?_⟩
        rw [hlefth.out, hrg66.out.iter.2]; exact hlth.out
end Go.Proofs.Ytijmbpokglohbaa
