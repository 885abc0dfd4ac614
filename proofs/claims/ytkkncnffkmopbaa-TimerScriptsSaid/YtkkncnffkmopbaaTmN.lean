/-
  The names that are due, in their order: the program's names, with slices.SortFunc by the kit's contract.
-/
import Derived.Test.YtkkncnffkmopbaaTmC
import Derived.Test.YtkkncnffkmopbaaTmA
import Derived.Test.YtkkncnffkmopbaaSrt
import Derived.Shelf.SlSortCmp.NoneTotal
namespace Go.Proofs.Ytkkncnffkmopbaa
open Go.RowKit Go.Maps
set_option linter.unusedSimpArgs false
set_option linter.unusedVariables false
/-- a text that is no longer than may be -/
structure Nm where
  s : Bs
  h : s.length ≤ maxLen
instance : Inhabited Nm := ⟨⟨[], by simp [maxLen]⟩⟩
def encN (x : Nm) : Value := .string ⟨x.s.toArray⟩
def cfN (L : List Tm) (x y : Nm) : Int := cfT L x.s y.s
theorem swoN (L : List Tm) : Sort.SWO (ltOf (cfN L)) := by
  have h := cfT_ok L
  refine ⟨fun x => ?_, fun x y z h1 h2 => ?_, fun x y z h1 h2 => ?_⟩
  · simp [ltOf, cfN, h.refl]
  · have g1 : cfT L x.s y.s < 0 := of_decide_eq_true h1
    have g2 : cfT L y.s z.s < 0 := of_decide_eq_true h2
    have e1 : cfT L x.s y.s = -1 := by rcases h.one x.s y.s with e | e | e <;> omega
    have e2 : cfT L y.s z.s = -1 := by rcases h.one y.s z.s with e | e | e <;> omega
    exact decide_eq_true (by show cfT L x.s z.s < 0; rw [h.lt _ _ _ e1 e2]; decide)
  · have g1 : ¬ cfT L x.s y.s < 0 := of_decide_eq_false h1
    have g2 : ¬ cfT L y.s z.s < 0 := of_decide_eq_false h2
    have n1 := h.neg x.s y.s
    have n2 := h.neg y.s z.s
    have n3 := h.neg x.s z.s
    have := h.trans (a := z.s) (b := y.s) (d := x.s) (by omega) (by omega)
    exact decide_eq_false (show ¬ cfT L x.s z.s < 0 by omega)
def mkN (x : Bs) : Nm := if h : x.length ≤ maxLen then ⟨x, h⟩ else default
theorem mkN_s {x : Bs} (h : x.length ≤ maxLen) : (mkN x).s = x := by unfold mkN; rw [dif_pos h]
theorem sortWorld_other {w : World} {g m b : Nat} {dk : Array Nm} {os : Array Obj} (hb : b < w.heap.size) (hg : g ≠ b) : (Go.Proofs.sortWorld encN w g 0 m dk os).heap[b]? = w.heap[b]? := by
  unfold Go.Proofs.sortWorld
  rw [Sort.heap_grow_old _ _ (by simpa [Sort.putRow, Sort.mapBlock, Sort.ahead] using hb)]
  simp [Sort.putRow, Sort.mapBlock, Sort.ahead, Array.getElem?_modify, hg]
theorem sortWorld_upd {w : World} {g m : Nat} {dk : Array Nm} {os : Array Obj} : Upd (fun b => b = g) w (Go.Proofs.sortWorld encN w g 0 m dk os) :=
  ⟨rfl, rfl, rfl, by simp [Go.Proofs.sortWorld, Sort.grow, Sort.putRow, Sort.mapBlock, Sort.ahead], fun b hb hs => sortWorld_other hb (fun e => hs e.symm)⟩
theorem byTime_lays (bx t bm g n : Nat) (room : Int) (L : List Tm) (w : World) (hbx : w.heap[bx]? = some (.cells #[.pointer (some ⟨t, 0, none⟩)] 23 (0, 0))) (hq : w.heap[t]? = some (.cells #[.int .i64 room, .map (some bm)] 51 (0, 0))) (ho : OwnsT w bm L) (hn : NeT L) (h1 : g ≠ bx) (h2 : g ≠ t) (h3 : g ≠ bm) :
    CmpLays1 Try.prog 23 #[.pointer (some ⟨bx, 0, none⟩)] encN (cfN L) g 0 n w := by
  intro m os dk hs x y
  have hc := byTime_w bx t bm room L x.s y.s x.h y.h (Go.Proofs.sortWorld encN w g 0 m dk os) ((sortWorld_other (blk_lt hbx) h1).trans hbx) ((sortWorld_other (blk_lt hq) h2).trans hq) (ho.to (sortWorld_other ho.lt h3)) hn
  refine Calls.mono hc fun e w' he => ?_
  cases e with
  | returned v =>
    obtain ⟨rfl, hg⟩ := he
    exact ⟨rfl, hg.eq⟩
  | panicked c => exact he.elim
  | outgrown => exact he.elim
theorem own_ne {w : World} {B : Nat} {e : TypeId} {s : Nat} {v : Value} {n : Nat} {xs : List Value} (h : w.ownsRow B e s v n xs) {b : Nat} (hb : ∀ cur, w.heap[b]? ≠ some (.cells cur e (0, 0))) : ∀ g, v.ownBlock = some g → g ≠ b := fun g hg e1 => by
  rcases h.2 with ⟨rfl, _⟩ | ⟨g', cap, cur, rfl, _, hgg, _⟩
  · cases hg
  · simp [Value.ownBlock] at hg
    subst hg
    exact hb cur (e1 ▸ hgg)
theorem ext_all {d : Array Nm} {n : Nat} (h : d.size = n) : (d.extract 0 n).toList = d.toList := by subst h; simp
set_option maxRecDepth 100000 in
theorem sortN_w (B bx t bm : Nat) (room : Int) (L : List Tm) (ao : Option Addr) (cap : Nat) (out : List Bs) (p : Tm → Bool) (w : World) (hbx : w.heap[bx]? = some (.cells #[.pointer (some ⟨t, 0, none⟩)] 23 (0, 0))) (hq : w.heap[t]? = some (.cells #[.int .i64 room, .map (some bm)] 51 (0, 0))) (ho : OwnsT w bm L) (hs : Srt L)
    (hrow : w.ownsRow B 9 1 (.slice ao out.length cap) out.length (strs out)) (hp : out.Perm ((L.filter p).map (·.n))) (hlen : ∀ x ∈ out, x.length ≤ maxLen) (hl : out.length ≤ 1000) :
    Calls Try.prog 22 #[.slice ao out.length cap, .func (.func 23) #[] #[.pointer (some ⟨bx, 0, none⟩)]] w (Rets fun r w' => r = .tuple #[] ∧ SR w' ao ((L.filter p).map (·.n)) ∧ Upd (fun b => (Value.slice ao out.length cap).ownBlock = some b) w w') := by
  by_cases h0 : out.length = 0
  · obtain rfl : out = [] := List.eq_nil_of_length_eq_zero h0
    have hn : (L.filter p).map (·.n) = [] := List.nil_perm.1 hp
    rw [hn]
    have hc := AnyF.slices_SortFunc_none (P := Try.prog) (ρ := Try.sortL_ren) { Try.sortL with } ao cap (.func (.func 23) #[] #[.pointer (some ⟨bx, 0, none⟩)]) w
    refine Calls.mono hc fun e w' he => ?_
    obtain ⟨rfl, rfl⟩ := he
    exact ⟨rfl, .inl rfl, Upd.refl _ _⟩
  · obtain ⟨g, rfl⟩ := ownsRow_some hrow (by omega)
    obtain ⟨cur, r1, r2, r3, r4, r5⟩ := ownsRow_blk hrow
    have hgl := blk_lt r1
    have n1 : g ≠ bx := fun e => by rw [e, hbx] at r1; cases r1
    have n2 : g ≠ t := fun e => by rw [e, hq] at r1; cases r1
    have n3 : g ≠ bm := fun e => by obtain ⟨es, cl, he⟩ := ho.blk; rw [e, he] at r1; cases r1
    obtain ⟨d, hd⟩ : ∃ d : Array Nm, d = (out.map mkN).toArray := ⟨_, rfl⟩
    have hds : d.size = out.length := by rw [hd]; simp
    have hget : ∀ i (hi : i < out.length), (d[i]!).s = out[i] := fun i hi => by
      have : d[i]! = mkN out[i] := by rw [hd, getElem!_pos _ i (by simpa using hi)]; simp
      rw [this, mkN_s (hlen _ (List.getElem_mem hi))]
    have eg : ∀ args w, (callFunc 23 args).run Try.prog w = .ok (.enter 23 args) w := enters_of Try.func23 (by kernel_rfl) rfl
    have hH : Sort.Holds encN w g 0 d := fun j hj => by
      rw [hds] at hj
      refine ⟨?_, blk_frz r1 _⟩
      rw [Nat.zero_add]
      have h1 : (strs out)[j]? = some (encN d[j]!) := by simp [strs, encN, hget j hj, hj]
      exact ownsRow_cell hrow rfl h1
    have hc := Any.slices_SortFunc Try.sortL encN (fun _ => rfl) (cfN L) (swoN L) 23 #[.pointer (some ⟨bx, 0, none⟩)] g 0 cap d w eg (byTime_lays bx t bm g d.size room L w hbx hq ho hs.2 n1 n2 n3) hH hgl (by omega)
    rw [hds] at hc
    refine Calls.mono hc fun e w' he => ?_
    obtain ⟨rfl, d', n, os, hperm, hsrt, rfl⟩ := he
    have hds' : d'.size = out.length := hperm.1.trans hds
    have hpl : (d'.toList.map (·.s)).Perm out := by
      have h1 := hperm.2.2
      rw [ext_all hds', ext_all hds] at h1
      have h2 := h1.map (·.s)
      have h3 : d.toList.map (·.s) = out := by
        rw [hd]
        simp only [List.map_map]
        conv => rhs; rw [← List.map_id out]
        exact List.map_congr_left fun x hx => by simp only [Function.comp, id]; exact mkN_s (hlen x hx)
      rwa [h3] at h2
    have hN : d'.toList.map (·.s) = (L.filter p).map (·.n) := by
      refine sorted_names hs p (hpl.trans hp) ?_
      rw [List.pairwise_iff_getElem]
      intro i j hi hj hij
      simp only [List.length_map, Array.length_toList] at hi hj
      have h1 : ¬ cfT L (d'[j]!).s (d'[i]!).s < 0 := of_decide_eq_false (hsrt i j (Nat.zero_le _) hij (by omega))
      rw [getElem!_pos d' i hi, getElem!_pos d' j hj] at h1
      have h2 := (cfT_ok L).neg (d'[j]).s (d'[i]).s
      simp only [List.getElem_map, Array.getElem_toList]
      omega
    refine ⟨rfl, .inr ⟨g, 0, rfl, Nat.lt_of_lt_of_le hgl sortWorld_upd.size, fun i x hx => ?_⟩, sortWorld_upd.mono fun b _ hb => by rw [hb]; rfl⟩
    rw [← hN, List.getElem?_map] at hx
    obtain ⟨y, hy, rfl⟩ := Option.map_eq_some_iff.1 hx
    rw [Array.getElem?_toList] at hy
    have hi := (Array.getElem?_eq_some_iff.1 hy).1
    have hSW : Go.Proofs.SW encN w g 0 d' (Go.Proofs.sortWorld encN w g 0 n d' os) := ⟨n, os, rfl⟩
    have := hSW.c1 ⟨fun _ => rfl, hH, hgl⟩ (by omega) i hi
    rw [this, getElem!_pos d' i hi, (Array.getElem?_eq_some_iff.1 hy).2]
    rfl
set_option maxRecDepth 100000 in
set_option maxHeartbeats 2000000 in
theorem names_w (t bm : Nat) (room : Int) (L : List Tm) (now : Int) (w : World) (h : Qu w t bm room L) : Calls Try.prog 21 #[.pointer (some ⟨t, 0, none⟩), .int .i64 now] w (Rets fun r w' =>
    ∃ ao cap, r = .slice ao (dueN L now).length cap ∧ SR w' ao (dueN L now) ∧ Upd0 w w') := by
  obtain ⟨i1, hj, hy0, hy1, hy2⟩ := info_parts info_str
  have hh := Lib.hid h
  have ht := blk_lt h.blk
  have hbm := h.own.lt
  have hlen : L.length ≤ 1000 := by have := h.len; have := h.r2; omega
  have htn : ¬ t = w.heap.size := by omega
  clear h
  go_enter Try.func21, Try.ntmps21
  obtain ⟨c0, c1⟩ := (hh.out.up (show Upd0 w (w.alloc (.cells #[.pointer (some ⟨t, 0, none⟩)] 23 (0, 0))) from (by (repeat (first | (with_reducible exact Upd.refl _ _) | (with_reducible assumption) | (with_reducible apply Upd.drew) | (with_reducible apply Upd.alloc) | (refine Upd0.tr ?_ (by with_reducible assumption)) | (refine Upd.setCell ?_ (fun h => absurd h (by first | exact Nat.lt_irrefl _ | (simp only []; omega))) _))); done))).cells
  go_wp2_with (first
    | (at_range; refine wpList_rangeT _ rfl _ rfl bm L rfl (OwnsT.to hh.out.own (Below.heap_alloc _ _ _ hbm)) ?_; intro w4 r left hr hrg hg4 hs4)
    | (with_reducible refine wp_serial (by kernel_rfl) (by kernel_rfl) (by (repeat (first | (with_reducible apply NoBad.then) | (with_reducible apply NoBad.inBlock) | (with_reducible apply NoBad.jump) | (with_reducible exact NoBad.rets))); done) ?_) | fail)
  have hu4 : Upd0 w w4 := (show Upd0 w (w.alloc _) from (by (repeat (first | (with_reducible exact Upd.refl _ _) | (with_reducible assumption) | (with_reducible apply Upd.drew) | (with_reducible apply Upd.alloc) | (refine Upd0.tr ?_ (by with_reducible assumption)) | (refine Upd.setCell ?_ (fun h => absurd h (by first | exact Nat.lt_irrefl _ | (simp only []; omega))) _))); done)).grown hg4 (fun _ h => by cases h)
  have hb4 := Lib.hid (show w4.heap[w.heap.size]? = some (.cells #[.pointer (some ⟨t, 0, none⟩)] 23 (0, 0)) from (hg4.block _ (by simp) (by simp)).trans (alloc_last _ _ _ rfl))
  have hr2 : w.heap.size < r := by simp at hr; omega
  have hs4' : r < w4.heap.size := by simp at hs4 hr; omega
  have hrgh := Lib.hid hrg
  clear hr hg4 hs4 hrg
  go_frame
  go_loopw [5, 6, 7] (fun l _ _ wr => ∃ (left : Lit → Bool) (cnt : Nat) (ss out : List Bs) (ao : Option Addr) (cap : Nat), Hid (RangesT wr bm r L left cnt ss) ∧ l = .slice ao out.length cap ∧ Hid (out = ss.filter (fun x => decide (atT L x ≤ now))) ∧ out.length + cnt ≤ L.length ∧ Upd0 w wr ∧ r < wr.heap.size ∧
    Hid (wr.ownsRow w.heap.size 9 1 (.slice ao out.length cap) out.length (strs out)) ∧ Hid (wr.heap[w.heap.size]? = some (.cells #[.pointer (some ⟨t, 0, none⟩)] 23 (0, 0)))) (fun _ _ _ wr => wr.rangeLeft bm r)
  case atStart => exact ⟨_, _, [], [], none, 0, hrgh, rfl, Lib.hid rfl, by simp, hu4, hs4', Lib.hid (World.ownsRow_nil _ _ _ _), hb4⟩
  case round =>
    obtain ⟨left5, cnt5, ss, out, ao, cap, hrg5, rfl, hout, hcnt, hu, hsz, ho, hb⟩ := hrel
    clear hrgh hs4' hu4 hb4
    have hQ := Lib.hid (hh.out.up hu)
    obtain ⟨⟨s1, s2, s3, hit⟩, hleft⟩ := hrg5.out.iter
    have hith := Lib.hid hit
    have hlefth := Lib.hid hleft
    clear hit hleft
    go_wp2_with (first
      | (at_next; refine wpList_nextT _ rfl _ rfl bm r L hh.out.srt.2 left5 cnt5 ss rfl hrg5.out ?_ ?_)
      | (with_reducible refine wp_serial (by kernel_rfl) (by kernel_rfl) (by (repeat (first | (with_reducible apply NoBad.then) | (with_reducible apply NoBad.inBlock) | (with_reducible apply NoBad.jump) | (with_reducible exact NoBad.rets))); done) ?_) | fail)
    · intro hperm
      have hpf := Lib.hid (show out.Perm ((L.filter (fun t => decide (t.a ≤ now))).map (·.n)) from by
        rw [hout.out]
        have h1 := hperm.filter (fun x => decide (atT L x ≤ now))
        rw [List.filter_map] at h1
        have h2 : L.filter ((fun x => decide (atT L x ≤ now)) ∘ (·.n)) = L.filter (fun t => decide (t.a ≤ now)) := List.filter_congr fun t ht => by simp only [Function.comp, atT_mem hh.out.srt.2 ht]
        rwa [h2] at h1)
      have hlf := Lib.hid (show ∀ x ∈ out, x.length ≤ maxLen from fun x hx => by
        obtain ⟨t, ht, rfl⟩ := List.mem_map.1 (hpf.out.mem_iff.1 hx)
        have := (hh.out.wf t (List.mem_filter.1 ht).1).1
        unfold maxLen; omega)
      clear hperm
      go_wp2_with (first
        | (go_at_call 22; refine (sortN_w w.heap.size w.heap.size t bm room L ao cap out (fun t => decide (t.a ≤ now)) _ hb.out hQ.out.blk hQ.out.own hQ.out.srt ho.out hpf.out hlf.out (by omega)).use ?_; rintro v w6 ⟨rfl, hsr, hu6⟩; have hsrh := Lib.hid hsr; clear hsr)
        | (with_reducible refine wp_serial (by kernel_rfl) (by kernel_rfl) (by (repeat (first | (with_reducible apply NoBad.then) | (with_reducible apply NoBad.inBlock) | (with_reducible apply NoBad.jump) | (with_reducible exact NoBad.rets))); done) ?_) | fail)
      all_goals go_returns
      all_goals
        have hd := dueN_eq hh.out.srt now
        refine ⟨ao, cap, by rw [hd, ← hpf.out.length_eq]; rfl, by rw [hd]; exact hsrh.out, Upd.trans hu hu6 fun b hb1 hs1 => ?_⟩
        have := (ho.out.lt b hs1).1
        omega
    · intro tm w5 left6 cnt6 htm hrg6 hlt hg5 hs5 hen
      have hu5 : Upd0 w w5 := hu.grown hg5 (fun k h => by cases h; intro; omega)
      have hU5 : Upd (fun b => b = r) wr w5 := (Upd.refl _ _).grown hg5 (fun k h _ => by cases h; rfl)
      have ho5 := Lib.hid (ownsRow_upd ho.out hU5 (own_ne ho.out (fun cur e => by rw [hith.out] at e; cases e)))
      have hb5 := Lib.hid (hU5.block (show ¬ w.heap.size = r by omega) hb.out)
      obtain ⟨⟨s4, s5, s6, hit6⟩, hleft6⟩ := hrg6.iter
      have hit6h := Lib.hid hit6
      have hleft6h := Lib.hid hleft6
      have hrg6h := Lib.hid hrg6
      have hs5' : r < w5.heap.size := by omega
      have hst := Lib.hid (show (ss ++ [tm.n]).filter (fun x => decide (atT L x ≤ now)) = out ++ (if tm.a ≤ now then [tm.n] else []) from by
        rw [List.filter_append, ← hout.out]
        congr 1
        simp only [List.filter_cons, List.filter_nil, atT_mem hh.out.srt.2 htm, decide_eq_true_eq])
      obtain ⟨nm, at_⟩ := tm
      simp only [] at hen hst
      clear hrg6 hit6 hleft6 hg5 hs5 hU5 htm
      by_cases hd : at_ ≤ now
      · rw [if_pos hd] at hst
        go_wp2_with (first
          | (at_builtin; refine wpList_app (w := w5) (by (repeat (first | exact Ext.refl _ | assumption | apply Ext.drew | apply Ext.alloc)); done) rfl (.tmp 24) (.tmp 26) 36 rfl 9 i1 (.string .empty) 1 16 Try.underlying36 hj hy0 hy1 hy2 rfl (by decide) (.slice ao out.length cap) out.length (strs out) (ownsRow_mono ho5.out (fun _ _ => Nat.zero_le _)) rfl w5.heap.size 1 1 [.string ⟨nm.toArray⟩] rfl rfl (alloc_last _ _ _ (by simp)) (by rfl) (by omega) (by omega) ?_; intro ao' cap' w7 hown' hu7 hf7; have hown7 := Lib.hid hown'; have hf7h := Lib.hid hf7; have hu7h := Lib.hid hu7; clear hown' hf7 hu7)
          | (with_reducible refine wp_serial (by kernel_rfl) (by kernel_rfl) (by (repeat (first | (with_reducible apply NoBad.then) | (with_reducible apply NoBad.inBlock) | (with_reducible apply NoBad.jump) | (with_reducible exact NoBad.rets))); done) ?_) | fail)
        have hkeep : ∀ b, b < w5.heap.size → (∀ cur, w5.heap[b]? ≠ some (.cells cur 9 (0, 0))) → w7.heap[b]? = w5.heap[b]? := fun b hb1 hb2 => by
          rw [hu7h.out.keep b (by simp; omega) (fun e => own_ne ho5.out hb2 b e rfl), Below.heap_alloc _ _ _ hb1]
        have hU : Upd0 w w7 := Upd.trans (show Upd0 w (w5.alloc _) from (by (repeat (first | (with_reducible exact Upd.refl _ _) | (with_reducible assumption) | (with_reducible apply Upd.drew) | (with_reducible apply Upd.alloc) | (refine Upd0.tr ?_ (by with_reducible assumption)) | (refine Upd.setCell ?_ (fun h => absurd h (by first | exact Nat.lt_irrefl _ | (simp only []; omega))) _))); done)) hu7h.out (fun q hq hs => absurd hq (by have := (ho5.out.lt q hs).1; omega))
        have hrg7 := Lib.hid (hrg6h.out.to (hkeep bm (by have := hu5.size; omega) (fun cur e => by obtain ⟨es, cl, he⟩ := hrg6h.out.own.blk; rw [he] at e; cases e)) (hkeep r hs5' (fun cur e => by rw [hit6h.out] at e; cases e)))
        go_roundw
        case rel => exact ⟨left6, cnt6, ss ++ [nm], out ++ [nm], ao', cap', hrg7, by simp, Lib.hid hst.out.symm, by simp; omega, hU, by have := hu7h.out.size; simp at this; omega, Lib.hid (by
            have h3 : w7.ownsRow w.heap.size 9 1 (.slice ao' (out.length + 1) cap') (out.length + 1) (strs out ++ [.string ⟨nm.toArray⟩]) := ownsRow_mono hown7.out (fun q hq => by
              rcases hf7h.out q hq with h | h
              · exact (ho5.out.lt q h).1
              · simp only [World.size_alloc] at h; have := hu5.size; omega)
            have e : strs (out ++ [nm]) = strs out ++ [.string ⟨nm.toArray⟩] := by simp [strs]
            rw [e, List.length_append]; exact h3), Lib.hid ((hkeep _ (by have := hu5.size; omega) (fun cur e => by rw [hb5.out] at e; cases e)).trans hb5.out)⟩
        case measure => rw [hrg7.out.iter.2, hlefth.out]; exact hlt
      · rw [if_neg hd, List.append_nil] at hst
        go_wp2_with (first | (with_reducible refine wp_serial (by kernel_rfl) (by kernel_rfl) (by (repeat (first | (with_reducible apply NoBad.then) | (with_reducible apply NoBad.inBlock) | (with_reducible apply NoBad.jump) | (with_reducible exact NoBad.rets))); done) ?_) | fail)
        go_roundw
        case rel => exact ⟨left6, cnt6, ss ++ [nm], out, ao, cap, hrg6h, rfl, Lib.hid hst.out.symm, by omega, (by (repeat (first | (with_reducible exact Upd.refl _ _) | (with_reducible assumption) | (with_reducible apply Upd.drew) | (with_reducible apply Upd.alloc) | (refine Upd0.tr ?_ (by with_reducible assumption)) | (refine Upd.setCell ?_ (fun h => absurd h (by first | exact Nat.lt_irrefl _ | (simp only []; omega))) _))); done), hs5', ho5, hb5⟩
        case measure => rw [hleft6h.out, hlefth.out]; exact hlt
end Go.Proofs.Ytkkncnffkmopbaa
