/-
  What is written is read: names, data, records, messages; plain.
-/
import Derived.Test.YtgdejgfmhndbhaaDeE
import Derived.Test.YtgdejgfmhndbhaaRdS
namespace Go.Proofs.Ytgdejgfmhndbhaa
set_option linter.unusedSimpArgs false
set_option linter.unusedVariables false
def Has (b : Bs) (a : Nat) (X : Bs) : Prop := ∃ u v, b = u ++ (X ++ v) ∧ u.length = a
theorem Has.app {b : Bs} {a : Nat} {X : Bs} (h : Has b a X) (t : Bs) : Has (b ++ t) a X := by
  obtain ⟨u, v, rfl, h2⟩ := h; exact ⟨u, v ++ t, by simp, h2⟩
theorem Has.left {b : Bs} {a : Nat} {X Y : Bs} (h : Has b a (X ++ Y)) : Has b a X := by
  obtain ⟨u, v, rfl, h2⟩ := h; exact ⟨u, Y ++ v, by simp, h2⟩
theorem Has.right {b : Bs} {a : Nat} {X Y : Bs} (h : Has b a (X ++ Y)) : Has b (a + X.length) Y := by
  obtain ⟨u, v, rfl, h2⟩ := h; exact ⟨u ++ X, v, by simp, by simp [h2]⟩
theorem Has.here (b X : Bs) : Has (b ++ X) b.length X := ⟨b, [], by simp, rfl⟩
theorem Has.take {b : Bs} {a : Nat} {X : Bs} (h : Has b a X) {n : Nat} (hn : X.length = n) : takS b ⟨a, 0⟩ n = X ∧ takR b ⟨a, 0⟩ n = ⟨a + n, 0⟩ := by
  obtain ⟨u, v, rfl, h2⟩ := h
  have hO : takO (u ++ (X ++ v)) ⟨a, 0⟩ n = true := takO_iff.2 ⟨rfl, by simp; omega⟩
  refine ⟨?_, by rw [takR, if_pos hO]⟩
  rw [takS, if_pos hO]
  subst h2 hn
  simp
theorem Has.num1 {b : Bs} {a : Nat} {c : UInt8} (h : Has b a [c]) : nuN b ⟨a, 0⟩ 1 = c.toNat ∧ nuR b ⟨a, 0⟩ 1 = ⟨a + 1, 0⟩ := by
  obtain ⟨h1, h2⟩ := h.take (n := 1) rfl
  exact ⟨by rw [nuN, h1]; simp [num], h2⟩
theorem num_wd2 {n : Nat} (h : n < 65536) : num (wd2 n) = n := by
  simp only [num, wd2, List.foldl_cons, List.foldl_nil, UInt8.toNat_ofNat']; omega
theorem Has.num2 {b : Bs} {a n : Nat} (h : Has b a (wd2 n)) (hn : n < 65536) : nuN b ⟨a, 0⟩ 2 = n ∧ nuR b ⟨a, 0⟩ 2 = ⟨a + 2, 0⟩ := by
  obtain ⟨h1, h2⟩ := h.take (n := 2) rfl
  exact ⟨by rw [nuN, h1, num_wd2 hn], h2⟩
theorem Has.num4 {b : Bs} {a n : Nat} (h : Has b a (w4 n)) (hn : n < 4294967296) : nuN b ⟨a, 0⟩ 4 = n ∧ nuR b ⟨a, 0⟩ 4 = ⟨a + 4, 0⟩ := by
  obtain ⟨h1, h2⟩ := h.take (n := 4) rfl
  exact ⟨by rw [nuN, h1, num_w4 hn], h2⟩
inductive At (b : Bs) : Nat → Nat → Bs → Nat → Prop
  | nil {g a : Nat} : Has b a [0] → At b g a [] (a + 1)
  | lab {g a : Nat} {x n : Bs} {e : Nat} : lblOk x = true → Has b a (UInt8.ofNat x.length :: x) → At b g (a + (x.length + 1)) n e → At b g a (UInt8.ofNat x.length :: (x ++ n)) e
  | ptr {g a t : Nat} {n : Bs} {e : Nat} : t < g → t < 16384 → Has b a (wd2 (49152 + t)) → At b t t n e → At b g a n (a + 2)
theorem At.app {b : Bs} {g a : Nat} {n : Bs} {e : Nat} (h : At b g a n e) (t : Bs) : At (b ++ t) g a n e := by
  induction h with
  | nil h => exact .nil (h.app t)
  | lab h1 h2 _ ih => exact .lab h1 (h2.app t) ih
  | ptr h1 h2 h3 _ ih => exact .ptr h1 h2 (h3.app t) ih
theorem At.up {b : Bs} {g g' a : Nat} {n : Bs} {e : Nat} (h : At b g a n e) (k : g ≤ g') : At b g' a n e := by
  induction h generalizing g' with
  | nil h => exact .nil h
  | lab h1 h2 _ ih => exact .lab h1 h2 (ih k)
  | ptr h1 h2 h3 h4 ih => exact .ptr (by omega) h2 h3 h4
theorem ofNat_toNat {n : Nat} (h : n < 256) : (UInt8.ofNat n).toNat = n := by rw [UInt8.toNat_ofNat']; omega
theorem At.read {b : Bs} {g a : Nat} {n : Bs} {e : Nat} (h : At b g a n e) : ∀ (f : Nat) (bk : Option Nat) (out : Bs), out.length + n.length < 255 → 1 + g + (255 - out.length) ≤ f → naF b (f + 1) ⟨a, 0⟩ g bk out = (out ++ n, ⟨bk.getD e, 0⟩) := by
  induction h with
  | @nil g a h =>
    intro f bk out hl hf
    obtain ⟨h1, h2⟩ := h.num1
    rw [naF_end (by rw [h2]) (by rw [h1]; rfl), h2]
    simp
  | @lab g a x n e h1 h2 h3 ih =>
    intro f bk out hl hf
    obtain ⟨f, rfl⟩ : ∃ f', f = f' + 1 := ⟨f - 1, by omega⟩
    obtain ⟨x1, x2⟩ := lblOk_iff.1 h1
    have h2' : Has b a ([UInt8.ofNat x.length] ++ x) := h2
    obtain ⟨e1, e2⟩ := h2'.left.num1
    obtain ⟨e3, e4⟩ := h2'.right.take (n := x.length) rfl
    simp only [List.length_cons, List.length_nil, List.length_append] at hl e3 e4
    have ek : nuN b ⟨a, 0⟩ 1 = x.length := by rw [e1]; exact ofNat_toNat (by omega)
    rw [naF_lab (by rw [e2]) (by rw [ek]; omega) (by rw [ek]; omega), ek, e2, e3, e4, Rk.want, if_neg (by simp; omega)]
    have := ih f bk (out ++ UInt8.ofNat x.length :: x) (by simp; omega) (by simp; omega)
    rw [show a + 1 + x.length = a + (x.length + 1) by omega, this]
    simp
  | @ptr g a t n e h1 h2 h3 h4 ih =>
    intro f bk out hl hf
    obtain ⟨f, rfl⟩ : ∃ f', f = f' + 1 := ⟨f - 1, by omega⟩
    have h3' : Has b a ([UInt8.ofNat ((49152 + t) / 256)] ++ [UInt8.ofNat (49152 + t)]) := h3
    obtain ⟨e1, e2⟩ := h3'.left.num1
    obtain ⟨e3, e4⟩ := h3'.right.num1
    have ek : nuN b ⟨a, 0⟩ 1 = 192 + t / 256 := by rw [e1, UInt8.toNat_ofNat']; omega
    have en : nuN b ⟨a + 1, 0⟩ 1 = t % 256 := by
      have : nuN b ⟨a + 1, 0⟩ 1 = _ := e3
      rw [this, UInt8.toNat_ofNat']; omega
    have ep : ptrN (192 + t / 256) (t % 256) = t := by unfold ptrN; omega
    rw [naF_ptr e2 ek rfl (by omega) (r2 := ⟨a + 1, 0⟩) (by rw [Rk.want, if_neg (by simp)]) (r3 := ⟨a + 2, 0⟩) e4 en (r4 := ⟨a + 2, 0⟩) (by rw [Rk.want, if_neg (by rw [ep]; simp; omega)])]
    rw [ep]
    have := ih f (some (bk.getD (a + 2))) out hl (by omega)
    rw [this]
    simp
theorem At.name {b : Bs} {a : Nat} {n : Bs} {e : Nat} (h : At b a a n e) (hn : n.length < 255) : naR b ⟨a, 0⟩ = (n, ⟨e, 0⟩) := by
  have := h.read (a + 299) none [] (by simpa using hn) (by simp; omega)
  simpa [naR] using this
/-! ### the writer -/
def nmX : List Bs → Nat → List (Bs × Nat) → Bs × List (Bs × Nat)
  | [], _, _ => ([0], [])
  | x :: L, k, pl => match fnd pl (jn (x :: L)) with
    | some a => (wd2 (49152 + a), [])
    | none => ((UInt8.ofNat x.length :: x) ++ (nmX L (k + (x.length + 1)) (pl ++ [(jn (x :: L), k)])).1, (jn (x :: L), k) :: (nmX L (k + (x.length + 1)) (pl ++ [(jn (x :: L), k)])).2)
theorem nameL_X : ∀ (L : List Bs) (w : Wr), nameL L w = ⟨w.b ++ (nmX L w.b.length w.pl).1, w.pl ++ (nmX L w.b.length w.pl).2⟩
  | [], w => by simp [nameL, nmX, Wr.add]
  | x :: L, w => by
    cases h : fnd w.pl (jn (x :: L)) with
    | some a => simp [nameL, nmX, h, Wr.add]
    | none =>
      have := nameL_X L ⟨w.b ++ (UInt8.ofNat x.length :: x), w.pl ++ [(jn (x :: L), w.b.length)]⟩
      simp only [nameL, nmX, h]
      rw [this]
      simp
def Lin (O : Wr → Wr) : Prop := ∃ (x : Nat → List (Bs × Nat) → Bs) (p : Nat → List (Bs × Nat) → List (Bs × Nat)), ∀ w, O w = ⟨w.b ++ x w.b.length w.pl, w.pl ++ p w.b.length w.pl⟩
theorem Lin.add (l : Bs) : Lin (fun w => w.add l) := ⟨fun _ _ => l, fun _ _ => [], fun w => by simp [Wr.add]⟩
theorem Lin.id : Lin (fun w => w) := ⟨fun _ _ => [], fun _ _ => [], fun w => by simp⟩
theorem Lin.name (n : Bs) : Lin (nameW n) := ⟨fun k pl => (nmX (cutL n) k pl).1, fun k pl => (nmX (cutL n) k pl).2, fun w => nameL_X _ w⟩
theorem Lin.comp {O Q : Wr → Wr} (h : Lin O) (k : Lin Q) : Lin (fun w => Q (O w)) := by
  obtain ⟨x, p, h⟩ := h
  obtain ⟨y, q, k⟩ := k
  refine ⟨fun n pl => x n pl ++ y (n + (x n pl).length) (pl ++ p n pl), fun n pl => p n pl ++ q (n + (x n pl).length) (pl ++ p n pl), fun w => ?_⟩
  show Q (O w) = _
  rw [k, h]
  simp
theorem Lin.ite {c : Prop} [Decidable c] {O Q : Wr → Wr} (h : Lin O) (k : Lin Q) : Lin (fun w => if c then O w else Q w) := by
  by_cases hc : c
  · simpa [hc] using h
  · simpa [hc] using k
theorem Lin.body (r : Rc) : Lin (bodyW r) := by
  unfold bodyW
  refine Lin.ite ?_ (Lin.ite ?_ (Lin.add _))
  · exact ((Lin.name _).comp (Lin.name _)).comp (Lin.add _)
  · exact (Lin.add _).comp (Lin.name _)
theorem set2_mid (a : Bs) (n : Nat) (Y : Bs) : set2 (a ++ (wd2 0 ++ Y)) a.length n = a ++ (wd2 n ++ Y) := by
  simp [set2, wd2, List.set_append]
def bodyN (r : Rc) (w : Wr) : Nat := (bodyW r (w.add (wd2 0))).b.length - w.b.length - 2
theorem dataW_eq (r : Rc) (w : Wr) : dataW r w = bodyW r (w.add (wd2 (bodyN r w))) ∧ (dataW r w).b.length = w.b.length + 2 + bodyN r w := by
  obtain ⟨x, p, h⟩ := Lin.body r
  have e0 : ∀ n, bodyW r (w.add (wd2 n)) = ⟨w.b ++ (wd2 n ++ x (w.b.length + 2) w.pl), w.pl ++ p (w.b.length + 2) w.pl⟩ := fun n => by
    rw [h]; simp [Wr.add, wd2]
  have hn : bodyN r w = (x (w.b.length + 2) w.pl).length := by
    rw [bodyN, e0]; simp [wd2]
  rw [e0, dataW]
  simp only [e0]
  rw [set2_mid, hn]
  have e1 : (w.b ++ (wd2 0 ++ x (w.b.length + 2) w.pl)).length - w.b.length - 2 = (x (w.b.length + 2) w.pl).length := by simp [wd2]
  rw [e1]
  exact ⟨rfl, by simp [wd2]; omega⟩
theorem Lin.data (r : Rc) : Lin (dataW r) := by
  obtain ⟨x, p, h⟩ := Lin.body r
  refine ⟨fun k pl => wd2 (x (k + 2) pl).length ++ x (k + 2) pl, fun k pl => p (k + 2) pl, fun w => ?_⟩
  have e0 : ∀ n, bodyW r (w.add (wd2 n)) = ⟨w.b ++ (wd2 n ++ x (w.b.length + 2) w.pl), w.pl ++ p (w.b.length + 2) w.pl⟩ := fun n => by
    rw [h]; simp [Wr.add, wd2]
  have hn : bodyN r w = (x (w.b.length + 2) w.pl).length := by
    rw [bodyN, e0]; simp [wd2]
  rw [(dataW_eq r w).1, e0, hn]
theorem Lin.rec (r : Rc) : Lin (recW r) := ((((Lin.name _).comp (Lin.add _)).comp (Lin.add _)).comp (Lin.add _)).comp (Lin.data r)
theorem Lin.qu (q : Qn) : Lin (quW q) := (((Lin.name _).comp (Lin.add _)).comp (Lin.add _))
theorem Lin.fold {α : Type} {O : α → Wr → Wr} (h : ∀ a, Lin (O a)) : ∀ l : List α, Lin (fun w => l.foldl (fun w a => O a w) w)
  | [] => Lin.id
  | a :: l => (h a).comp (Lin.fold h l)
theorem Lin.recs (l : List Rc) : Lin (recsW l) := Lin.fold Lin.rec l
theorem Lin.qus (l : List Qn) : Lin (qusW l) := Lin.fold Lin.qu l
theorem Lin.le {O : Wr → Wr} (h : Lin O) (w : Wr) : ∃ X P, O w = ⟨w.b ++ X, w.pl ++ P⟩ := by
  obtain ⟨x, p, h⟩ := h; exact ⟨_, _, h w⟩
def Inv (w : Wr) : Prop := ∀ n a, (n, a) ∈ w.pl → a < 16384 → a < w.b.length ∧ ∃ e, At w.b a a n e
theorem Inv.add {w : Wr} (h : Inv w) (l : Bs) : Inv (w.add l) := fun n a hm ha => by
  obtain ⟨h1, e, h2⟩ := h n a hm ha
  exact ⟨by simp [Wr.add]; omega, e, h2.app l⟩
theorem fnd_some {pl : List (Bs × Nat)} {n : Bs} {a : Nat} (h : fnd pl n = some a) : (n, a) ∈ pl ∧ a < 16384 := by
  unfold fnd at h
  cases hf : pl.find? (hitP n) with
  | none => rw [hf] at h; cases h
  | some q =>
    rw [hf] at h
    have h1 := List.find?_some hf
    have h2 := List.mem_of_find?_eq_some hf
    obtain ⟨m, k⟩ := q
    simp only [hitP, Bool.and_eq_true, decide_eq_true_eq] at h1
    simp only [Option.map_some, Option.some.injEq] at h
    obtain ⟨rfl, h1⟩ := h1
    subst h
    exact ⟨h2, h1⟩
theorem nameL_at : ∀ (L : List Bs) (w : Wr) (g : Nat), L.all lblOk = true → g ≤ w.b.length →
    (∀ n a, (n, a) ∈ w.pl → n.length ≤ (jn L).length → a < 16384 → a < g ∧ ∃ e, At w.b a a n e) →
    At (nameL L w).b g w.b.length (jn L) (nameL L w).b.length ∧
    ∀ n a, (n, a) ∈ (nmX L w.b.length w.pl).2 → a < 16384 → w.b.length ≤ a ∧ a < (nameL L w).b.length ∧ ∃ e, At (nameL L w).b a a n e
  | [], w, g, _, hg, _ => by
    refine ⟨?_, fun n a h => by simp [nmX] at h⟩
    have : At (w.b ++ [0]) g w.b.length [] (w.b.length + 1) := .nil (Has.here _ _)
    simpa [nameL, Wr.add, jn] using this
  | x :: L, w, g, hL, hg, hp => by
    simp only [List.all_cons, Bool.and_eq_true] at hL
    obtain ⟨x1, x2⟩ := lblOk_iff.1 hL.1
    cases h : fnd w.pl (jn (x :: L)) with
    | some a =>
      obtain ⟨hm, ha⟩ := fnd_some h
      obtain ⟨h1, e, h2⟩ := hp _ _ hm (Nat.le_refl _) ha
      refine ⟨?_, fun n a h' => by simp [nmX, h] at h'⟩
      have : At (w.b ++ wd2 (49152 + a)) g w.b.length (jn (x :: L)) (w.b.length + 2) := .ptr h1 ha (Has.here _ _) (h2.app _)
      simpa [nameL, h, Wr.add, wd2] using this
    | none =>
      have ih := nameL_at L ⟨w.b ++ (UInt8.ofNat x.length :: x), w.pl ++ [(jn (x :: L), w.b.length)]⟩ g hL.2 (by simp; omega) (by
        intro n a hm hl ha
        simp only [List.mem_append, List.mem_singleton, Prod.mk.injEq] at hm
        rcases hm with hm | ⟨rfl, rfl⟩
        · obtain ⟨h1, e, h2⟩ := hp n a hm (by rw [jn_cons]; simp; omega) ha
          exact ⟨h1, e, h2.app _⟩
        · rw [jn_cons] at hl; simp at hl; omega)
      have hN : nameL (x :: L) w = nameL L ⟨w.b ++ (UInt8.ofNat x.length :: x), w.pl ++ [(jn (x :: L), w.b.length)]⟩ := by simp [nameL, h]
      have hX := nameL_X L ⟨w.b ++ (UInt8.ofNat x.length :: x), w.pl ++ [(jn (x :: L), w.b.length)]⟩
      rw [hN]
      have hb : ∃ t, (nameL L ⟨w.b ++ (UInt8.ofNat x.length :: x), w.pl ++ [(jn (x :: L), w.b.length)]⟩).b = w.b ++ (UInt8.ofNat x.length :: x) ++ t := ⟨_, by rw [hX]⟩
      obtain ⟨t, ht⟩ := hb
      have hA : ∀ g', g' ≤ w.b.length → g ≤ g' → At (nameL L ⟨w.b ++ (UInt8.ofNat x.length :: x), w.pl ++ [(jn (x :: L), w.b.length)]⟩).b g' w.b.length (jn (x :: L)) (nameL L ⟨w.b ++ (UInt8.ofNat x.length :: x), w.pl ++ [(jn (x :: L), w.b.length)]⟩).b.length := fun g' _ hg' => by
        have h1 := ih.1.up hg'
        have hh : Has (nameL L ⟨w.b ++ (UInt8.ofNat x.length :: x), w.pl ++ [(jn (x :: L), w.b.length)]⟩).b w.b.length (UInt8.ofNat x.length :: x) := by rw [ht]; exact (Has.here _ _).app t
        refine At.lab (n := jn L) hL.1 hh ?_
        have e : (w.b ++ UInt8.ofNat x.length :: x).length = w.b.length + (x.length + 1) := by simp
        simp only [e] at h1
        exact h1
      refine ⟨hA g hg (Nat.le_refl _), fun n a hm ha => ?_⟩
      simp only [nmX, h, List.mem_cons, Prod.mk.injEq] at hm
      have hlen : w.b.length + (x.length + 1) ≤ (nameL L ⟨w.b ++ (UInt8.ofNat x.length :: x), w.pl ++ [(jn (x :: L), w.b.length)]⟩).b.length := by rw [ht]; simp
      rcases hm with ⟨rfl, rfl⟩ | hm
      · exact ⟨Nat.le_refl _, by omega, _, hA w.b.length (Nat.le_refl _) hg⟩
      · have e : (w.b ++ UInt8.ofNat x.length :: x).length = w.b.length + (x.length + 1) := by simp
        simp only [e] at ih
        obtain ⟨h1, h2, e, h3⟩ := ih.2 n a hm ha
        exact ⟨by omega, h2, e, h3⟩
theorem name_wr {n : Bs} (hn : cutB n = true) {w : Wr} (hI : Inv w) : Inv (nameW n w) ∧ At (nameW n w).b w.b.length w.b.length n (nameW n w).b.length := by
  obtain ⟨hl, hc⟩ := cut_lab hn
  obtain ⟨hj, hok⟩ := lab_jn n (cutL n) hc
  obtain ⟨h1, h2⟩ := nameL_at (cutL n) w w.b.length hok (Nat.le_refl _) (fun m a hm _ ha => hI m a hm ha)
  rw [hj] at h1
  refine ⟨fun m a hm ha => ?_, h1⟩
  rw [nameW, nameL_X] at hm
  simp only [List.mem_append] at hm
  rcases hm with hm | hm
  · obtain ⟨k1, e, k2⟩ := hI m a hm ha
    rw [nameW, nameL_X]
    exact ⟨by simp; omega, e, k2.app _⟩
  · obtain ⟨k1, k2, e, k3⟩ := h2 m a hm ha
    exact ⟨k2, e, k3⟩
theorem Has.pre {b s : Bs} {a : Nat} {X : Bs} (h : Has b a X) (k : b <+: s) : Has s a X := by obtain ⟨t, rfl⟩ := k; exact h.app t
theorem At.pre {b s : Bs} {g a : Nat} {n : Bs} {e : Nat} (h : At b g a n e) (k : b <+: s) : At s g a n e := by obtain ⟨t, rfl⟩ := k; exact h.app t
theorem Lin.pre {O : Wr → Wr} (h : Lin O) (w : Wr) : w.b <+: (O w).b := by obtain ⟨X, P, e⟩ := h.le w; rw [e]; exact ⟨X, rfl⟩
theorem Lin.len {O : Wr → Wr} (h : Lin O) (w : Wr) : w.b.length ≤ (O w).b.length := (h.pre w).length_le
theorem Has.add {w : Wr} {l s : Bs} (k : (w.add l).b <+: s) : Has s w.b.length l := (Has.here w.b l).pre k
theorem rc_ok {r : Rc} (h : r.ok = true) : kindB r.ty = true ∧ ttlB r.tl = true ∧ r.d.length ≤ 4000 ∧ fitB r.ty r.d = true ∧ cutB r.nm = true := by
  have h : recC r.nm r.ty r.tl r.d = 0 := of_decide_eq_true h
  unfold recC at h
  split at h
  · rename_i hh
    have h2 := hh.2.2
    rw [dataB, Bool.and_eq_true, decide_eq_true_eq] at h2
    refine ⟨hh.1, hh.2.1, h2.1, h2.2, ?_⟩
    unfold checkC at h
    split at h
    · assumption
    · cases h
  · cases h
theorem host_back {s : Bs} {a e : Nat} {n : Bs} (h : At s a a n e) (hn : cutB n = true) : hoS s ⟨a, 0⟩ = n ++ [0] ∧ hoR s ⟨a, 0⟩ = ⟨e, 0⟩ := by
  have := h.name (by have := (cutB_lab hn).1; omega)
  rw [hoS, hoR, this]
  exact ⟨by rw [hostS, if_pos hn], rfl⟩
theorem name_back {n : Bs} (hn : cutB n = true) {w : Wr} (hI : Inv w) {s : Bs} (hs : (nameW n w).b <+: s) : Inv (nameW n w) ∧ naR s ⟨w.b.length, 0⟩ = (n, ⟨(nameW n w).b.length, 0⟩) ∧ (hoS s ⟨w.b.length, 0⟩ = n ++ [0] ∧ hoR s ⟨w.b.length, 0⟩ = ⟨(nameW n w).b.length, 0⟩) := by
  obtain ⟨h1, h2⟩ := name_wr hn hI
  exact ⟨h1, (h2.pre hs).name (by have := (cutB_lab hn).1; omega), host_back (h2.pre hs) hn⟩
theorem ph_back {k : Int} {d : Bs} (h : phC k d = 0) : d = d.take (aheadZ k).toNat ++ (phN k d ++ [0]) ∧ cutB (phN k d) = true ∧ 0 ≤ aheadZ k ∧ aheadZ k ≤ d.length := by
  have h' := h
  unfold phC at h
  split at h
  · cases h
  · split at h
    · cases h
    · split at h
      · rename_i h1 h2 h3
        obtain ⟨e1, e2⟩ := hostOk_yes h3
        rw [phN, if_pos h', ← e1]
        exact ⟨by simp, e2, by omega, by omega⟩
      · cases h
theorem fit_host {k : Int} {d : Bs} (h : fitB k d = true) (hk : 0 ≤ aheadZ k) : phC k d = 0 := by
  have h1 : ¬ k = 1 := fun e => by subst e; exact absurd hk (by decide)
  have h2 : ¬ k = 28 := fun e => by subst e; exact absurd hk (by decide)
  have h3 : ¬ k = 16 := fun e => by subst e; exact absurd hk (by decide)
  have h4 : ¬ k = 6 := fun e => by subst e; exact absurd hk (by decide)
  rw [fitB, if_neg h1, if_neg h2, if_neg h3, if_neg h4] at h
  unfold phC at h ⊢
  rw [if_neg (by omega)] at h ⊢
  split
  · rename_i hh; rw [if_pos hh] at h; cases h
  · rename_i hh
    rw [if_neg hh] at h
    split
    · rfl
    · rename_i h5; rw [if_neg h5] at h; cases h
theorem drop_of {d X R : Bs} (h : d = X ++ R) {n : Nat} (hn : n = X.length) : d.drop n = R := by subst h; subst hn; simp
theorem body_back {r : Rc} (hok : r.ok = true) {w : Wr} (hI : Inv w) {s : Bs} (hs : (bodyW r w).b <+: s) (n : Nat) (hn : (bodyW r w).b.length = w.b.length + n) :
    Inv (bodyW r w) ∧ daX s ⟨w.b.length, 0⟩ r.ty n = (r.d, ⟨w.b.length + n, 0⟩) := by
  obtain ⟨_, _, _, hf, _⟩ := rc_ok hok
  rw [← hn]
  by_cases h6 : r.ty = 6
  · have hb : psB r.d = true := by
      rw [fitB, h6] at hf
      simpa using hf
    have hV : psV r.d = psS r.d := by rw [psV, if_pos hb]
    simp only [psB, Bool.and_eq_true, decide_eq_true_eq] at hb
    obtain ⟨⟨⟨b1, b2⟩, b3⟩, _⟩ := hb
    obtain ⟨e1, c1⟩ := fir_back b1
    obtain ⟨e2, c2⟩ := fir_back b2
    have eB : bodyW r w = (nameW (firN (firR r.d)) (nameW (firN r.d) w)).add (firR (firR r.d)) := by
      rw [bodyW, if_pos h6, hV]
      show (nameW (firN (firR r.d)) (nameW (firN r.d) w)).add _ = _
      congr 1
      have hl := congrArg List.length e1
      have hl2 := congrArg List.length e2
      simp only [List.length_append, List.length_cons] at hl hl2
      have e3 : r.d = (firN r.d ++ 0 :: (firN (firR r.d) ++ [0])) ++ firR (firR r.d) := (e1.trans (congrArg (fun x => firN r.d ++ 0 :: x) e2)).trans (by simp)
      have e4 : r.d.length - 20 = (firN r.d ++ 0 :: (firN (firR r.d) ++ [0])).length := by simp; omega
      exact drop_of e3 e4
    rw [eB] at hs hn ⊢
    have p2 : (nameW (firN (firR r.d)) (nameW (firN r.d) w)).b <+: s := ((Lin.add _).pre _).trans hs
    have p1 : (nameW (firN r.d) w).b <+: s := ((Lin.name _).pre _).trans p2
    obtain ⟨i1, _, n1, n2⟩ := name_back c1 hI p1
    obtain ⟨i2, _, n3, n4⟩ := name_back c2 i1 p2
    obtain ⟨t1, t2⟩ := (Has.add hs).take (n := 20) b3
    refine ⟨i2.add _, ?_⟩
    rw [daX, if_neg (by omega), if_neg (by omega), if_pos h6, n1, n2, n3, n4, t1, t2]
    refine Prod.ext ?_ ?_
    · show (_ : Bs) = r.d
      exact ((e1.trans (congrArg (fun x => firN r.d ++ 0 :: x) e2)).trans (by simp)).symm
    · show (⟨_, _⟩ : Rk) = ⟨_, _⟩
      simp [Wr.add, b3]
  · by_cases h33 : phC r.ty r.d = 0 ∧ r.ty ≠ 33
    · obtain ⟨e1, c1, z1, z2⟩ := ph_back h33.1
      have hl := congrArg List.length e1
      simp only [List.length_append, List.length_take, List.length_cons, List.length_nil] at hl
      have eB : bodyW r w = nameW (phN r.ty r.d) (w.add (r.d.take (aheadZ r.ty).toNat)) := by
        rw [bodyW, if_neg h6, if_pos h33]
        congr 2
        congr 1
        omega
      rw [eB] at hs hn ⊢
      have p1 : (w.add (r.d.take (aheadZ r.ty).toNat)).b <+: s := ((Lin.name _).pre _).trans hs
      obtain ⟨i1, _, n1, n2⟩ := name_back c1 (hI.add _) hs
      refine ⟨i1, ?_⟩
      have hz : r.ty = 15 ∨ (r.ty = 2 ∨ r.ty = 5 ∨ r.ty = 12) := by
        unfold aheadZ at z1
        split at z1
        · exact absurd (by assumption) h33.2
        · split at z1
          · left; assumption
          · split at z1
            · right; assumption
            · omega
      rcases hz with hz | hz
      · have ha : aheadZ r.ty = 2 := by rw [hz]; rfl
        obtain ⟨t1, t2⟩ := (Has.add p1).take (n := 2) (by rw [ha]; simp; omega)
        have hw : (w.add (r.d.take (aheadZ r.ty).toNat)).b.length = w.b.length + 2 := by rw [ha]; simp [Wr.add]; omega
        rw [daX, if_neg (by omega), if_pos hz, t1, t2]
        rw [hw] at n1 n2
        rw [n1, n2]
        refine Prod.ext ?_ rfl
        exact e1.symm
      · have ha : aheadZ r.ty = 0 := by rcases hz with h | h | h <;> rw [h] <;> rfl
        have hw : (w.add (r.d.take (aheadZ r.ty).toNat)).b.length = w.b.length := by rw [ha]; simp [Wr.add]
        rw [daX, if_pos hz]
        rw [hw] at n1 n2
        rw [n1, n2]
        refine Prod.ext ?_ rfl
        have e2 := e1
        rw [ha] at e2
        simpa using e2.symm
    · have eB : bodyW r w = w.add r.d := by rw [bodyW, if_neg h6, if_neg h33]
      rw [eB] at hs hn ⊢
      have hd : r.d.length = n := by simp [Wr.add] at hn; omega
      obtain ⟨t1, t2⟩ := (Has.add hs).take hd
      have hno : ¬ (r.ty = 2 ∨ r.ty = 5 ∨ r.ty = 12) ∧ ¬ r.ty = 15 := by
        constructor
        · intro h
          exact h33 ⟨fit_host hf (by rcases h with h | h | h <;> rw [h] <;> decide), by omega⟩
        · intro h
          exact h33 ⟨fit_host hf (by rw [h]; decide), by omega⟩
      refine ⟨hI.add _, ?_⟩
      rw [daX, if_neg hno.1, if_neg hno.2, if_neg h6, t1, t2, hn]
theorem want_pos (r : Rk) {b : Bool} (h : b = true) (x : Int) : r.want b x = r := by rw [h, Rk.want_yes]
theorem rec_back {r : Rc} (hok : r.ok = true) {w : Wr} (hI : Inv w) {s : Bs} (hs : (recW r w).b <+: s) (hl : (recW r w).b.length ≤ 65535) {i : Nat} (hi : i < 200) :
    Inv (recW r w) ∧ ¬ qhT s ⟨w.b.length, 0⟩ = 41 ∧ reC (qhN s ⟨w.b.length, 0⟩) (qhT s ⟨w.b.length, 0⟩) s (reW s (qhC s ⟨w.b.length, 0⟩) (qhR s ⟨w.b.length, 0⟩)) = r ∧
    reE i (qhN s ⟨w.b.length, 0⟩) (qhT s ⟨w.b.length, 0⟩) s (reW s (qhC s ⟨w.b.length, 0⟩) (qhR s ⟨w.b.length, 0⟩)) = ⟨(recW r w).b.length, 0⟩ := by
  obtain ⟨hk, ht, hd, hf, hc⟩ := rc_ok hok
  obtain ⟨k1, k2, k3, _⟩ := kind_yes hk
  obtain ⟨t1, t2⟩ := ttl_yes ht
  obtain ⟨w1, ew1⟩ : ∃ w1, w1 = nameW r.nm w := ⟨_, rfl⟩
  obtain ⟨w5, ew5⟩ : ∃ w5, w5 = ((((nameW r.nm w).add (wd2 r.ty.toNat)).add (wd2 1)).add (w4 r.tl.toNat)) := ⟨_, rfl⟩
  have eR : recW r w = dataW r w5 := by rw [ew5]; rfl
  rw [eR] at hs hl ⊢
  obtain ⟨eD, lD⟩ := dataW_eq r w5
  have l5 : w5.b.length = w1.b.length + 8 := by rw [ew5, ew1]; simp [Wr.add, wd2, w4_len]
  obtain ⟨n, en⟩ : ∃ n, n = bodyN r w5 := ⟨_, rfl⟩
  rw [← en] at eD lD
  have p6 : (w5.add (wd2 n)).b <+: s := ((Lin.body r).pre _).trans (by rw [← eD]; exact hs)
  have p5 : w5.b <+: s := ((Lin.add _).pre _).trans p6
  have p4 : ((((nameW r.nm w).add (wd2 r.ty.toNat)).add (wd2 1)).add (w4 r.tl.toNat)).b <+: s := by rw [← ew5]; exact p5
  have p3 : (((nameW r.nm w).add (wd2 r.ty.toNat)).add (wd2 1)).b <+: s := ((Lin.add _).pre _).trans p4
  have p2 : ((nameW r.nm w).add (wd2 r.ty.toNat)).b <+: s := ((Lin.add _).pre _).trans p3
  have p1 : (nameW r.nm w).b <+: s := ((Lin.add _).pre _).trans p2
  obtain ⟨i1, n1, _⟩ := name_back hc hI p1
  have i5 : Inv w5 := by rw [ew5]; exact ((i1.add _).add _).add _
  rw [← ew1] at n1 p2 p3 p4
  have h2 := (Has.add p2).num2 (n := r.ty.toNat) (by omega)
  have h3 := (Has.add p3).num2 (n := 1) (by decide)
  have h4 := (Has.add p4).num4 (n := r.tl.toNat) (by omega)
  have h6 := (Has.add p6).num2 (n := n) (by omega)
  have l2 : (w1.add (wd2 r.ty.toNat)).b.length = w1.b.length + 2 := by simp [Wr.add, wd2]
  have l3 : ((w1.add (wd2 r.ty.toNat)).add (wd2 1)).b.length = w1.b.length + 4 := by simp [Wr.add, wd2]
  have l6 : (w5.add (wd2 n)).b.length = w1.b.length + 10 := by simp [Wr.add, wd2, l5]
  rw [l2] at h3
  rw [l3] at h4
  rw [l5] at h6
  have hp7 : (bodyW r (w5.add (wd2 n))).b <+: s := by rw [← eD]; exact hs
  have hB := body_back hok (i5.add (wd2 n)) hp7 n (by rw [← eD, lD, l6]; omega)
  rw [l6] at hB
  have qN : qhN s ⟨w.b.length, 0⟩ = r.nm := by rw [qhN, n1]
  have qA : qhA s ⟨w.b.length, 0⟩ = ⟨w1.b.length, 0⟩ := by rw [qhA, n1]
  have qT : qhT s ⟨w.b.length, 0⟩ = r.ty.toNat := by rw [qhT, qA, h2.1]
  have qB : qhB s ⟨w.b.length, 0⟩ = ⟨w1.b.length + 2, 0⟩ := by rw [qhB, qA, h2.2]
  have qC : qhC s ⟨w.b.length, 0⟩ = 1 := by rw [qhC, qB, h3.1]
  have qR : qhR s ⟨w.b.length, 0⟩ = ⟨w1.b.length + 4, 0⟩ := by rw [qhR, qB, h3.2]
  have rW : reW s 1 ⟨w1.b.length + 4, 0⟩ = ⟨w1.b.length + 4, 0⟩ := want_pos _ (by decide) _
  have rT : reT s ⟨w1.b.length + 4, 0⟩ = r.tl.toNat := h4.1
  have rA : reA s ⟨w1.b.length + 4, 0⟩ = ⟨w1.b.length + 8, 0⟩ := h4.2
  have rK : reK s ⟨w1.b.length + 4, 0⟩ = n := by rw [reK, rA, h6.1]
  have rB : reB s ⟨w1.b.length + 4, 0⟩ = ⟨w1.b.length + 10, 0⟩ := by rw [reB, rA, h6.2]
  have ety : ((r.ty.toNat : Nat) : Int) = r.ty := by omega
  have hle := hs.length_le
  have dw : (⟨w1.b.length + 10, 0⟩ : Rk).want (decide (w1.b.length + 10 + n ≤ s.length)) 3 = ⟨w1.b.length + 10, 0⟩ := want_pos _ (decide_eq_true (by omega)) _
  have dY : daY s ⟨w1.b.length + 10, 0⟩ r.ty n = (r.d, ⟨w1.b.length + 10 + n, 0⟩) := by
    rw [daY]; dsimp only; rw [dw, if_pos rfl, hB.2]
  have dS : daS s ⟨w1.b.length + 10, 0⟩ r.ty n = r.d := by rw [daS, dY]
  have dR : daR s ⟨w1.b.length + 10, 0⟩ r.ty n = ⟨w1.b.length + 10 + n, 0⟩ := by
    rw [daR]; dsimp only; rw [dw, if_pos rfl, dY]; exact want_pos _ (decide_eq_true rfl) _
  have eC : reC r.nm r.ty.toNat s ⟨w1.b.length + 4, 0⟩ = r := by
    rw [reC, rT, rB, rK, ety, dS]
    have : ((r.tl.toNat : Nat) : Int) = r.tl := by omega
    rw [this]
  rw [qN, qT, qC, qR, rW, reE, eC, reD, rB, rK, ety, dR]
  refine ⟨?_, by omega, rfl, ?_⟩
  · rw [eD]; exact hB.1
  · rw [want_pos _ (by rw [hok, decide_eq_true hi]; rfl)]
    rw [lD]; congr 1; omega
theorem recs_back {s : Bs} (last : Bool) (n f : Nat) : ∀ (l : List Rc) (w : Wr) (i : Nat) (acc : List Rc), Inv w → l.all Rc.ok = true → (recsW l w).b <+: s → (recsW l w).b.length ≤ 65535 → i + l.length ≤ 200 →
    Inv (recsW l w) ∧ rcF s last n (l.length + f) i ⟨w.b.length, 0⟩ acc = rcF s last n f (i + l.length) ⟨(recsW l w).b.length, 0⟩ (acc ++ l)
  | [], w, i, acc, hI, _, _, _, _ => by simp [recsW, hI]
  | r :: l, w, i, acc, hI, hok, hs, hl, hi => by
    simp only [List.all_cons, Bool.and_eq_true] at hok
    simp only [List.length_cons] at hi
    have e : recsW (r :: l) w = recsW l (recW r w) := rfl
    rw [e] at hs hl ⊢
    have p := ((Lin.recs l).pre (recW r w))
    obtain ⟨h1, h2, h3, h4⟩ := rec_back hok.1 hI (p.trans hs) (Nat.le_trans p.length_le hl) (i := i) (by omega)
    obtain ⟨h5, h6⟩ := recs_back last n f l (recW r w) (i + 1) (acc ++ [r]) h1 hok.2 hs hl (by omega)
    refine ⟨h5, ?_⟩
    rw [show (r :: l).length + f = (l.length + f) + 1 by simp; omega, rcF, if_pos rfl, if_neg (fun h => h2 h.1), h3, h4, h6]
    rw [show i + 1 + l.length = i + (r :: l).length by simp; omega]
    simp
theorem qu_ok {q : Qn} (h : q.ok = true) : cutB q.nm = true ∧ 1 ≤ q.ty ∧ q.ty ≤ 65535 := by
  simp only [Qn.ok, Bool.and_eq_true, decide_eq_true_eq] at h
  exact ⟨h.1, h.2.1, h.2.2.1⟩
theorem qu_back {q : Qn} (hok : q.ok = true) {w : Wr} (hI : Inv w) {s : Bs} (hs : (quW q w).b <+: s) :
    Inv (quW q w) ∧ (⟨qhN s ⟨w.b.length, 0⟩, qhT s ⟨w.b.length, 0⟩⟩ : Qn) = q ∧ quK s ⟨w.b.length, 0⟩ = ⟨(quW q w).b.length, 0⟩ := by
  obtain ⟨hc, k1, k2⟩ := qu_ok hok
  have p3 : (((nameW q.nm w).add (wd2 q.ty.toNat)).add (wd2 1)).b <+: s := hs
  have p2 : ((nameW q.nm w).add (wd2 q.ty.toNat)).b <+: s := ((Lin.add _).pre _).trans p3
  have p1 : (nameW q.nm w).b <+: s := ((Lin.add _).pre _).trans p2
  obtain ⟨i1, n1, _⟩ := name_back hc hI p1
  have h2 := (Has.add p2).num2 (n := q.ty.toNat) (by omega)
  have h3 := (Has.add p3).num2 (n := 1) (by decide)
  obtain ⟨w1, ew1⟩ : ∃ w1, w1 = nameW q.nm w := ⟨_, rfl⟩
  rw [← ew1] at n1 h2 h3
  have l2 : (w1.add (wd2 q.ty.toNat)).b.length = w1.b.length + 2 := by simp [Wr.add, wd2]
  rw [l2] at h3
  have qN : qhN s ⟨w.b.length, 0⟩ = q.nm := by rw [qhN, n1]
  have qA : qhA s ⟨w.b.length, 0⟩ = ⟨w1.b.length, 0⟩ := by rw [qhA, n1]
  have qT : qhT s ⟨w.b.length, 0⟩ = q.ty.toNat := by rw [qhT, qA, h2.1]
  have qB : qhB s ⟨w.b.length, 0⟩ = ⟨w1.b.length + 2, 0⟩ := by rw [qhB, qA, h2.2]
  have qC : qhC s ⟨w.b.length, 0⟩ = 1 := by rw [qhC, qB, h3.1]
  have qR : qhR s ⟨w.b.length, 0⟩ = ⟨w1.b.length + 4, 0⟩ := by rw [qhR, qB, h3.2]
  have ety : ((q.ty.toNat : Nat) : Int) = q.ty := by omega
  rw [quK, qN, qT, qC, qR, ety]
  refine ⟨(i1.add _).add _, rfl, ?_⟩
  rw [want_pos _ (by rw [hok]; rfl)]
  rw [quW, ← ew1]; simp [Wr.add, wd2]
theorem qus_back {s : Bs} : ∀ (l : List Qn) (w : Wr) (acc : List Qn), Inv w → l.all Qn.ok = true → (qusW l w).b <+: s →
    Inv (qusW l w) ∧ quF s l.length ⟨w.b.length, 0⟩ acc = (acc ++ l, ⟨(qusW l w).b.length, 0⟩)
  | [], w, acc, hI, _, _ => by simp [qusW, quF, hI]
  | q :: l, w, acc, hI, hok, hs => by
    simp only [List.all_cons, Bool.and_eq_true] at hok
    have e : qusW (q :: l) w = qusW l (quW q w) := rfl
    rw [e] at hs ⊢
    have p := ((Lin.qus l).pre (quW q w))
    obtain ⟨h1, h2, h3⟩ := qu_back hok.1 hI (p.trans hs)
    obtain ⟨h5, h6⟩ := qus_back l (quW q w) (acc ++ [q]) h1 hok.2 hs
    refine ⟨h5, ?_⟩
    rw [List.length_cons, quF, if_pos rfl, h2, h3, h6]
    simp
theorem flg_ltd (m : Msg) (h1 : 0 ≤ m.op) (h2 : m.op ≤ 15) (h3 : 0 ≤ m.rc) (h4 : m.rc ≤ 15) : flg m < 65536 := by
  unfold flg b2n
  split <;> split <;> split <;> split <;> split <;> omega
theorem flg_parts (m : Msg) (h1 : 0 ≤ m.op) (h2 : m.op ≤ 15) (h3 : 0 ≤ m.rc) (h4 : m.rc ≤ 15) :
    decide (32768 ≤ flg m) = m.re ∧ flg m / 2048 % 16 = m.op.toNat ∧ decide (flg m / 1024 % 2 = 1) = m.au ∧ decide (flg m / 512 % 2 = 1) = m.tr ∧ decide (flg m / 256 % 2 = 1) = m.wa ∧ decide (flg m / 128 % 2 = 1) = m.av ∧ flg m % 16 = m.rc.toNat ∧ flg m / 16 % 8 = 0 := by
  unfold flg b2n
  refine ⟨?_, ?_, ?_, ?_, ?_, ?_, ?_, ?_⟩
  all_goals
    cases hre : m.re <;> cases hau : m.au <;> cases htr : m.tr <;> cases hwa : m.wa <;> cases hav : m.av <;> simp only [if_true, if_false, Bool.false_eq_true, decide_eq_true_eq, decide_eq_false_iff_not] <;> omega
theorem head_ok {m : Msg} (h : msgB m = true) : (0 ≤ m.id ∧ m.id ≤ 65535) ∧ (0 ≤ m.op ∧ m.op ≤ 15) ∧ (0 ≤ m.rc ∧ m.rc ≤ 15) ∧ (m.sz = 0 ∨ (512 ≤ m.sz ∧ m.sz ≤ 65535)) ∧ (m.qs.length ≤ 10 ∧ m.qs.all Qn.ok = true) ∧ (m.an.length ≤ 200 ∧ m.an.all Rc.ok = true) ∧ (m.ns.length ≤ 200 ∧ m.ns.all Rc.ok = true) ∧ (m.ex.length ≤ 200 ∧ m.ex.all Rc.ok = true) := by
  simp only [msgB, headB, szB, mayB, Bool.and_eq_true, Bool.or_eq_true, decide_eq_true_eq] at h
  obtain ⟨⟨⟨a1, a2, a3, a4⟩, a5⟩, a6, a7, a8⟩ := h
  exact ⟨a1, a2, a3, a4, a5, a6, a7, a8⟩
theorem headW_ln (m : Msg) : (headW m).length = 12 := by simp [headW, wd2]
theorem Lin.optw (m : Msg) : Lin (optW m) := by
  unfold optW
  exact Lin.ite Lin.id (Lin.add _)
theorem recs_all {s : Bs} {l : List Rc} {w : Wr} (hI : Inv w) (hok : l.all Rc.ok = true) (hs : (recsW l w).b <+: s) (hl : (recsW l w).b.length ≤ 65535) (hn : l.length ≤ 200) (last : Bool) :
    Inv (recsW l w) ∧ rcR s ⟨w.b.length, 0⟩ l.length last = ((l, 0), ⟨(recsW l w).b.length, 0⟩) := by
  obtain ⟨h1, h2⟩ := recs_back last l.length 0 l w 0 [] hI hok hs hl (by omega)
  refine ⟨h1, ?_⟩
  rw [rcR, rcW, want_pos _ (decide_eq_true (by omega))]
  rw [Nat.add_zero] at h2
  rw [h2, rcF]
  simp
theorem recs_opt {s : Bs} {l : List Rc} {w : Wr} (hI : Inv w) (hok : l.all Rc.ok = true) (hn : l.length ≤ 200) {sz : Nat} (hz : 512 ≤ sz) (hz2 : sz ≤ 65535)
    (hs : ((recsW l w).add ([0] ++ wd2 41 ++ wd2 sz ++ w4 0 ++ wd2 0)).b <+: s) (hl : ((recsW l w).add ([0] ++ wd2 41 ++ wd2 sz ++ w4 0 ++ wd2 0)).b.length ≤ 65535) :
    rcR s ⟨w.b.length, 0⟩ (l.length + 1) true = ((l, sz), ⟨((recsW l w).add ([0] ++ wd2 41 ++ wd2 sz ++ w4 0 ++ wd2 0)).b.length, 0⟩) := by
  have p := (Lin.add ([0] ++ wd2 41 ++ wd2 sz ++ w4 0 ++ wd2 0)).pre (recsW l w)
  obtain ⟨h1, h2⟩ := recs_back true (l.length + 1) 1 l w 0 [] hI hok (p.trans hs) (Nat.le_trans p.length_le hl) (by omega)
  have hH := Has.add hs
  obtain ⟨q, eq⟩ : ∃ q, q = (recsW l w).b.length := ⟨_, rfl⟩
  have hlen : ((recsW l w).add ([0] ++ wd2 41 ++ wd2 sz ++ w4 0 ++ wd2 0)).b.length = q + 11 := by rw [eq]; simp [Wr.add, wd2, w4]
  rw [hlen]
  rw [← eq] at h2 hH
  have a1 := hH.left.left.left.left
  have a2 := hH.left.left.left.right.num2 (by decide)
  have a3 := hH.left.left.right.num2 (by omega)
  have a4 := hH.left.right.num4 (by decide)
  have a5 := hH.right.num2 (by decide)
  simp only [List.length_append, List.length_cons, List.length_nil, wd2, w4] at a2 a3 a4 a5
  have n1 : naR s ⟨q, 0⟩ = ([], ⟨q + 1, 0⟩) := (At.nil a1).name (by simp)
  have qN : qhN s ⟨q, 0⟩ = [] := by rw [qhN, n1]
  have qA : qhA s ⟨q, 0⟩ = ⟨q + 1, 0⟩ := by rw [qhA, n1]
  have qT : qhT s ⟨q, 0⟩ = 41 := by rw [qhT, qA]; exact a2.1
  have qB : qhB s ⟨q, 0⟩ = ⟨q + 3, 0⟩ := by rw [qhB, qA]; exact a2.2
  have qC : qhC s ⟨q, 0⟩ = sz := by rw [qhC, qB]; exact a3.1
  have qR : qhR s ⟨q, 0⟩ = ⟨q + 5, 0⟩ := by rw [qhR, qB]; exact a3.2
  have oN : opN s ⟨q + 5, 0⟩ = 0 := a4.1
  have oA : opA s ⟨q + 5, 0⟩ = ⟨q + 9, 0⟩ := a4.2
  have oK : opK s ⟨q + 5, 0⟩ = 0 := by rw [opK, oA]; exact a5.1
  have oB : opB s ⟨q + 5, 0⟩ = ⟨q + 11, 0⟩ := by rw [opB, oA]; exact a5.2
  rw [rcR, rcW, want_pos _ (decide_eq_true (by simp [b2n]; omega)), h2, rcF, if_pos rfl, if_pos ⟨qT, by rw [qR]⟩, qN, qC, qR, oN, oK, oB]
  rw [want_pos _ (by simp [opOk, hz])]
  simp
theorem msg_back {m : Msg} (hB : msgB m = true) (hl : (encW m).b.length ≤ 65535) : dcG (encW m).b = m ∧ (dcX (encW m).b).2 = ⟨(encW m).b.length, 0⟩ := by
  obtain ⟨⟨i1, i2⟩, ⟨o1, o2⟩, ⟨r1, r2⟩, hz, ⟨q1, q2⟩, ⟨a1, a2⟩, ⟨u1, u2⟩, ⟨x1, x2⟩⟩ := head_ok hB
  obtain ⟨s, es⟩ : ∃ s, s = (encW m).b := ⟨_, rfl⟩
  obtain ⟨W0, e0⟩ : ∃ W, W = (⟨headW m, []⟩ : Wr) := ⟨_, rfl⟩
  obtain ⟨W1, e1⟩ : ∃ W, W = qusW m.qs W0 := ⟨_, rfl⟩
  obtain ⟨W2, e2⟩ : ∃ W, W = recsW m.an W1 := ⟨_, rfl⟩
  obtain ⟨W3, e3⟩ : ∃ W, W = recsW m.ns W2 := ⟨_, rfl⟩
  obtain ⟨W4, e4⟩ : ∃ W, W = recsW m.ex W3 := ⟨_, rfl⟩
  have eE : encW m = optW m W4 := by rw [e4, e3, e2, e1, e0]; rfl
  have p5 : (optW m W4).b <+: s := by rw [es, eE]; exact List.prefix_refl _
  have p4 : W4.b <+: s := ((Lin.optw m).pre _).trans p5
  have p3 : W3.b <+: s := ((Lin.recs m.ex).pre W3).trans (by rw [← e4]; exact p4)
  have p2 : W2.b <+: s := ((Lin.recs m.ns).pre W2).trans (by rw [← e3]; exact p3)
  have p1 : W1.b <+: s := ((Lin.recs m.an).pre W1).trans (by rw [← e2]; exact p2)
  have p0 : W0.b <+: s := ((Lin.qus m.qs).pre W0).trans (by rw [← e1]; exact p1)
  have I0 : Inv W0 := by rw [e0]; intro n a h; simp at h
  have hsl : s.length ≤ 65535 := by rw [es]; exact hl
  have l0 : W0.b.length = 12 := by rw [e0]; exact headW_ln m
  -- the head
  have hH : Has s 0 (headW m) := ((Has.here [] (headW m)).pre (by rw [e0] at p0; exact p0))
  unfold headW at hH
  have c0 := hH.left.left.left.left.left.num2 (by omega)
  have c1 := hH.left.left.left.left.right.num2 (flg_ltd m o1 o2 r1 r2)
  have c2 := hH.left.left.left.right.num2 (by omega)
  have c3 := hH.left.left.right.num2 (by omega)
  have c4 := hH.left.right.num2 (by omega)
  have hx : m.ex.length + b2n (decide (m.sz ≠ 0)) 1 < 65536 := by unfold b2n; split <;> omega
  have c5 := hH.right.num2 hx
  simp only [List.length_append, List.length_cons, List.length_nil, wd2] at c1 c2 c3 c4 c5
  obtain ⟨f1, f2, f3, f4, f5, f6, f7, f8⟩ := flg_parts m o1 o2 r1 r2
  have n1 : nuI s ⟨0, 0⟩ 1 = ⟨2, 0⟩ := c0.2
  have n2 : nuI s ⟨0, 0⟩ 2 = ⟨4, 0⟩ := by rw [nuI, n1]; exact c1.2
  have hF : dcF s = flg m := by rw [dcF, n1]; exact c1.1
  have hW : dcW s = ⟨4, 0⟩ := by rw [dcW, hF, n2, want_pos _ (decide_eq_true f8)]
  have m1 : nuI s ⟨4, 0⟩ 1 = ⟨6, 0⟩ := c2.2
  have m2 : nuI s ⟨4, 0⟩ 2 = ⟨8, 0⟩ := by rw [nuI, m1]; exact c3.2
  have m3 : nuI s ⟨4, 0⟩ 3 = ⟨10, 0⟩ := by rw [nuI, m2]; exact c4.2
  have m4 : nuI s ⟨4, 0⟩ 4 = ⟨12, 0⟩ := by rw [nuI, m3]; exact c5.2
  have k0 : dcN s 0 = m.qs.length := by rw [dcN, hW]; exact c2.1
  have k1 : dcN s 1 = m.an.length := by rw [dcN, hW, m1]; exact c3.1
  have k2 : dcN s 2 = m.ns.length := by rw [dcN, hW, m2]; exact c4.1
  have k3 : dcN s 3 = m.ex.length + b2n (decide (m.sz ≠ 0)) 1 := by rw [dcN, hW, m3]; exact c5.1
  have hh : dcH s = ⟨12, 0⟩ := by rw [dcH, hW, k0, m4, want_pos _ (decide_eq_true q1)]
  -- the lists
  obtain ⟨I1, Q⟩ := qus_back m.qs W0 [] I0 q2 (by rw [← e1]; exact p1)
  rw [← e1, l0] at Q
  rw [← e1] at I1
  have hQ : dcQ s = (m.qs, ⟨W1.b.length, 0⟩) := by rw [dcQ, k0, hh, Q]; rfl
  obtain ⟨I2, A⟩ := recs_all I1 a2 (by rw [← e2]; exact p2) (by rw [← e2]; exact Nat.le_trans p2.length_le hsl) a1 false
  rw [← e2] at A I2
  have hA : dcA s = ((m.an, 0), ⟨W2.b.length, 0⟩) := by rw [dcA, hQ, k1]; exact A
  obtain ⟨I3, U⟩ := recs_all I2 u2 (by rw [← e3]; exact p3) (by rw [← e3]; exact Nat.le_trans p3.length_le hsl) u1 false
  rw [← e3] at U I3
  have hU : dcU s = ((m.ns, 0), ⟨W3.b.length, 0⟩) := by rw [dcU, hA, k2]; exact U
  have hX : dcX s = ((m.ex, m.sz.toNat), ⟨s.length, 0⟩) := by
    rw [dcX, hU, k3]
    by_cases hs0 : m.sz = 0
    · obtain ⟨_, X⟩ := recs_all I3 x2 (by rw [← e4]; exact p4) (by rw [← e4]; exact Nat.le_trans p4.length_le hsl) x1 true
      rw [← e4] at X
      have es' : s = W4.b := by rw [es, eE, optW, if_pos hs0]
      rw [hs0]
      rw [show m.ex.length + b2n (decide ((0 : Int) ≠ 0)) 1 = m.ex.length from rfl, X, es']
      rfl
    · have hz' : 512 ≤ m.sz ∧ m.sz ≤ 65535 := by omega
      have eO : optW m W4 = (recsW m.ex W3).add ([0] ++ wd2 41 ++ wd2 m.sz.toNat ++ w4 0 ++ wd2 0) := by rw [optW, if_neg hs0, e4]
      have es' : s = ((recsW m.ex W3).add ([0] ++ wd2 41 ++ wd2 m.sz.toNat ++ w4 0 ++ wd2 0)).b := by rw [es, eE, eO]
      have X := recs_opt I3 x2 x1 (sz := m.sz.toNat) (by omega) (by omega) (s := s) (by rw [← es']; exact List.prefix_refl _) (by rw [← es']; exact hsl)
      rw [← es'] at X
      have : b2n (decide (m.sz ≠ 0)) 1 = 1 := by rw [decide_eq_true hs0]; rfl
      rw [this]
      exact X
  rw [← es, hX]
  refine ⟨?_, rfl⟩
  rw [dcG, hF, f1, f2, f3, f4, f5, f6, f7, hQ, hA, hU, hX]
  have c0' : nuN s ⟨0, 0⟩ 2 = m.id.toNat := c0.1
  rw [c0']
  have g1 : ((m.id.toNat : Nat) : Int) = m.id := by omega
  have g2 : ((m.op.toNat : Nat) : Int) = m.op := by omega
  have g3 : ((m.rc.toNat : Nat) : Int) = m.rc := by omega
  have g4 : ((m.sz.toNat : Nat) : Int) = m.sz := by omega
  rw [g1, g2, g3]
  simp only [g4]
theorem nuN_2 (s : Bs) (r : Rk) : nuN s r 2 < 65536 := by
  have h1 := num_lt (takS s r 2)
  have h2 := takS_len s r 2
  have h3 : 256 ^ (takS s r 2).length ≤ 256 ^ 2 := Nat.pow_le_pow_right (by decide) h2
  exact Nat.lt_of_lt_of_le h1 (Nat.le_trans h3 (by decide))
end Go.Proofs.Ytgdejgfmhndbhaa
