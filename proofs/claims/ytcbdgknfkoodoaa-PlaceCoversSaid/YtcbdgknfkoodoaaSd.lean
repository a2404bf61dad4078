/- The places that the program tells of bytes, in plain Lean; which place owns a byte. For bytes. -/
import Derived.Test.YtcbdgknfkoodoaaSc
import Derived.Test.YtcbdgknfkoodoaaF11
import Derived.Test.YtcbdgknfkoodoaaF12
namespace Go.Proofs.Ytcbdgknfkoodoaa.S
open Go.RowKit Go.Proofs.YtcbdgknfkoodoaaW.PrintWords Go.Proofs.Ytcbdgknfkoodoaa.F
set_option linter.unusedVariables false
set_option linter.unusedSimpArgs false

/-- Fields and sizes, one behind the other. -/
def mk (a : Int) : List (Int × Int) → List S32
  | [] => []
  | p :: r => ⟨p.1, a, p.2⟩ :: mk (a + p.2) r
def tot : List (Int × Int) → Int
  | [] => 0
  | p :: r => p.2 + tot r
theorem tot_append (x y : List (Int × Int)) : tot (x ++ y) = tot x + tot y := by
  induction x with
  | nil => simp [tot]
  | cons p r ih => simp only [List.cons_append, tot, ih]; omega
theorem mk_append (x y : List (Int × Int)) : ∀ a, mk a (x ++ y) = mk a x ++ mk (a + tot x) y := by
  induction x with
  | nil => intro a; simp [mk, tot]
  | cons p r ih => intro a; simp only [List.cons_append, mk, ih, tot]; congr 2; rw [Int.add_assoc]
theorem mk_length (x : List (Int × Int)) : ∀ a, (mk a x).length = x.length := by
  induction x with
  | nil => intro a; rfl
  | cons p r ih => intro a; simp [mk, ih]
def Pos (x : List (Int × Int)) : Prop := ∀ p ∈ x, 0 < p.2
theorem tot_ge {x : List (Int × Int)} (h : Pos x) : (x.length : Int) ≤ tot x := by
  induction x with
  | nil => simp [tot]
  | cons p r ih =>
    have h1 := h p (by simp)
    have h2 := ih (fun q hq => h q (by simp [hq]))
    simp only [List.length_cons, tot]
    omega
theorem mk_last {x : List (Int × Int)} (h : x ≠ []) : (rd_T32 (mk 0 x) (((mk 0 x).length : Int) - 1)).f1 + (rd_T32 (mk 0 x) (((mk 0 x).length : Int) - 1)).f2 = tot x := by
  obtain ⟨y, p, rfl⟩ : ∃ y p, x = y ++ [p] := ⟨x.dropLast, x.getLast h, (List.dropLast_concat_getLast h).symm⟩
  rw [mk_append, tot_append]
  have : (((mk 0 y ++ mk (0 + tot y) [p]).length : Int) - 1).toNat = (mk 0 y).length := by simp [mk]
  unfold rd_T32
  rw [this, List.getD_eq_getElem?_getD, List.getElem?_append_right (Nat.le_refl _)]
  simp [mk, tot]
def one (f s : Int) : List (Int × Int) := if 0 < s then [(f, s)] else []
theorem pos_one (f s : Int) : Pos (one f s) := by
  intro p hp
  unfold one at hp
  split at hp
  · simp at hp; subst hp; assumption
  · cases hp
theorem pos_append {x y : List (Int × Int)} (h : Pos x) (k : Pos y) : Pos (x ++ y) := fun p hp => by
  rcases List.mem_append.1 hp with hp | hp
  · exact h p hp
  · exact k p hp
theorem tot_one (f s : Int) (h : 0 ≤ s) : tot (one f s) = s := by
  unfold one
  split
  · simp [tot]
  · simp [tot]; omega
theorem lay_loop (x : List S32) (f t s : Int) (hx : x.length ≤ 1000000) (h0 : -1000000 ≤ t) (h1 : t ≤ 1000000) (hs0 : -1000000 ≤ s) (hs : s ≤ 1000000) :
    Ev (fun k => place_lay.j0 k x f [s] t) (x ++ (if 0 < s then [⟨f, t, s⟩] else [])) := by
  refine Ev.step (f := fun k => place_lay.l0 k x f t [s] 1 0) (fun k => by rw [place_lay.j0]; rfl) ?_
  by_cases c : 0 < s
  · rw [if_pos c]
    refine Ev.step (f := fun k => place_lay.l0 k (x ++ [⟨f, t, s⟩]) f (t + s) [s] 1 1) (fun k => ?_) ?_
    · conv => lhs; rw [place_lay.l0]
      rw [if_pos (by omega), if_pos (by omega), if_pos (by simp), show rd [s] 0 = s from rfl, if_pos (by omega), if_pos (by omega), w64 (by omega) (by omega), w64 (by omega) (by omega)]
      rfl
    · refine Ev.step (f := fun _ => some (x ++ [⟨f, t, s⟩])) (fun k => ?_) (Ev.now _)
      rw [place_lay.l0, if_neg (by omega)]
  · rw [if_neg c, List.append_nil]
    refine Ev.step (f := fun k => place_lay.l0 k x f t [s] 1 1) (fun k => ?_) ?_
    · conv => lhs; rw [place_lay.l0]
      rw [if_pos (by omega), if_pos (by omega), if_pos (by simp), show rd [s] 0 = s from rfl, if_neg (by omega), w64 (by omega) (by omega)]
      rfl
    · refine Ev.step (f := fun _ => some x) (fun k => ?_) (Ev.now _)
      rw [place_lay.l0, if_neg (by omega)]
theorem lay_ev {x : List (Int × Int)} (hp : Pos x) (ht : tot x ≤ 1000000) (f s : Int) (hs0 : -1000000 ≤ s) (hs : s ≤ 1000000) : Ev (fun k => place_lay.f k (mk 0 x) f [s]) (mk 0 (x ++ one f s)) := by
  have hg := tot_ge hp
  have hlen := mk_length x 0
  have key : mk 0 (x ++ one f s) = mk 0 x ++ (if 0 < s then [⟨f, tot x, s⟩] else []) := by
    rw [mk_append]
    unfold one
    split <;> simp [mk]
  rw [key]
  by_cases c : x = []
  · subst c
    refine Ev.congr (fun k => ?_) (lay_loop (mk 0 []) f (tot []) s (by simp [mk]) (by simp [tot]) (by simp [tot]) hs0 hs)
    unfold place_lay.f
    rw [if_neg (by simp [mk])]
    rfl
  · have hl : 0 < x.length := List.length_pos_iff.2 c
    refine Ev.congr (fun k => ?_) (lay_loop (mk 0 x) f (tot x) s (by omega) (by omega) (by omega) hs0 hs)
    unfold place_lay.f
    rw [if_pos (by omega), w64 (n := ((mk 0 x).length : Int) - 1) (by omega) (by omega), if_pos (by omega), if_pos (by omega), mk_last c, w64 (by omega) (by omega)]
def segC (n : Nat) : List (Int × Int) := List.replicate n (6, 4)
def seg0 : List (Int × Int) := [(1, 1), (2, 1), (3, 2), (4, 4), (5, 4)]
def segX (p : Pk) : List (Int × Int) := if p.h.ext = true then (one 7 2 ++ one 8 2) ++ one 9 (p.ex.length : Int) else []
def segP (p : Pk) : List (Int × Int) := one 10 (p.pl.length : Int) ++ (if p.h.pad = true then one 11 (p.padn - 1) ++ one 12 1 else [])
def segs (p : Pk) : List (Int × Int) := ((seg0 ++ segC p.h.csrc.length) ++ segX p) ++ segP p
theorem tot_C (n : Nat) : tot (segC n) = 4 * n := by
  induction n with
  | zero => rfl
  | succ n ih => simp only [segC, List.replicate_succ, tot] at *; omega
theorem pos_C (n : Nat) : Pos (segC n) := fun p hp => by
  have := List.eq_of_mem_replicate hp
  subst this
  decide
theorem pos_0 : Pos seg0 := by unfold Pos seg0; simp
/-- Of these sizes nothing goes beyond. -/
def Fit (p : Pk) : Prop := p.h.csrc.length ≤ 15 ∧ p.ex.length ≤ 300000 ∧ p.pl.length ≤ 100000 ∧ 0 ≤ p.padn ∧ p.padn ≤ 255 ∧ (p.h.pad = true → 1 ≤ p.padn)
theorem pos_X (p : Pk) : Pos (segX p) := by
  unfold segX
  split
  · exact pos_append (pos_append (pos_one _ _) (pos_one _ _)) (pos_one _ _)
  · intro q hq; cases hq
theorem pos_P (p : Pk) : Pos (segP p) := by
  unfold segP
  refine pos_append (pos_one _ _) ?_
  split
  · exact pos_append (pos_one _ _) (pos_one _ _)
  · intro q hq; cases hq
theorem pos_segs (p : Pk) : Pos (segs p) := pos_append (pos_append (pos_append pos_0 (pos_C _)) (pos_X p)) (pos_P p)
theorem of_j1 {x : List (Int × Int)} (hp : Pos x) (ht : tot x ≤ 400000) (p : Pk) (hf : Fit p) : Ev (fun k => place_Of.j1 k (mk 0 x) p.h.pad p.h.ext p.h.mark p.h.typ p.h.seq p.h.tm p.h.ssrc p.h.csrc p.prof p.ex p.pl p.padn) (mk 0 (x ++ segP p), 0) := by
  obtain ⟨h1, h2, h3, h4, h5, h6⟩ := hf
  refine Ev.step (fun k => by rw [place_Of.j1]) ?_
  refine Ev.bind (lay_ev hp (by omega) _ _ (by omega) (by omega)) ?_
  have hp1 := pos_append hp (pos_one 10 (p.pl.length : Int))
  have t1 := tot_one 10 (p.pl.length : Int) (by omega)
  unfold segP
  by_cases c : p.h.pad = true
  · simp only [if_pos c]
    have t2 := tot_one 11 (p.padn - 1) (by have := h6 c; omega)
    rw [w64 (n := p.padn - 1) (by omega) (by omega)]
    refine Ev.bind (lay_ev hp1 (by rw [tot_append]; omega) _ _ (by omega) (by omega)) ?_
    refine Ev.bind (lay_ev (pos_append hp1 (pos_one _ _)) (by rw [tot_append, tot_append]; omega) _ _ (by omega) (by omega)) ?_
    refine Ev.eq fun k => ?_
    simp only [List.append_assoc]
  · simp only [if_neg c, List.append_nil]
    exact Ev.now _
theorem of_l0 (p : Pk) (hf : Fit p) : ∀ (d i : Nat), i + d = p.h.csrc.length → Ev (fun k => place_Of.l0 k (mk 0 (seg0 ++ segC i)) (p.h.csrc.length : Int) (i : Int) p.h.pad p.h.ext p.h.mark p.h.typ p.h.seq p.h.tm p.h.ssrc p.h.csrc p.prof p.ex p.pl p.padn) (mk 0 (segs p), 0) := by
  intro d
  have hf0 := hf
  obtain ⟨h1, h2, h3, h4, h5, h6⟩ := hf
  have tt : ∀ i, tot (seg0 ++ segC i) = 12 + 4 * i := fun i => by rw [tot_append, tot_C]; rfl
  have pp : ∀ i, Pos (seg0 ++ segC i) := fun i => pos_append pos_0 (pos_C i)
  induction d with
  | zero =>
    intro i hi
    obtain rfl : i = p.h.csrc.length := by omega
    have t3 := tt p.h.csrc.length
    by_cases c : p.h.ext = true
    · refine Ev.step (f := fun k => (place_lay.f k (mk 0 (seg0 ++ segC p.h.csrc.length)) 7 [2]).bind fun t => (place_lay.f k t 8 [2]).bind fun t => (place_lay.f k t 9 [(p.ex.length : Int)]).bind fun t => place_Of.j1 k t p.h.pad p.h.ext p.h.mark p.h.typ p.h.seq p.h.tm p.h.ssrc p.h.csrc p.prof p.ex p.pl p.padn) (fun k => ?_) ?_
      · rw [place_Of.l0, if_neg (by omega), if_pos c]
      · have q1 := pos_append (pp p.h.csrc.length) (pos_one 7 2)
        have q2 := pos_append q1 (pos_one 8 2)
        have q3 := pos_append q2 (pos_one 9 (p.ex.length : Int))
        have u1 := tot_one 7 2 (by omega)
        have u2 := tot_one 8 2 (by omega)
        have u3 := tot_one 9 (p.ex.length : Int) (by omega)
        refine Ev.bind (lay_ev (pp _) (by omega) 7 2 (by omega) (by omega)) ?_
        refine Ev.bind (lay_ev q1 (by rw [tot_append]; omega) 8 2 (by omega) (by omega)) ?_
        refine Ev.bind (lay_ev q2 (by rw [tot_append, tot_append]; omega) 9 _ (by omega) (by omega)) ?_
        have := of_j1 q3 (by rw [tot_append, tot_append, tot_append]; omega) p hf0
        unfold segs segX
        rw [if_pos c]
        simp only [List.append_assoc] at this ⊢
        exact this
    · refine Ev.step (f := fun k => place_Of.j1 k (mk 0 (seg0 ++ segC p.h.csrc.length)) p.h.pad p.h.ext p.h.mark p.h.typ p.h.seq p.h.tm p.h.ssrc p.h.csrc p.prof p.ex p.pl p.padn) (fun k => ?_) ?_
      · rw [place_Of.l0, if_neg (by omega), if_neg c]
      · have := of_j1 (pp p.h.csrc.length) (by omega) p hf0
        unfold segs segX
        rw [if_neg c, List.append_nil]
        exact this
  | succ d ih =>
    intro i hi
    refine Ev.step (f := fun k => (place_lay.f k (mk 0 (seg0 ++ segC i)) 6 [4]).bind fun t => place_Of.l0 k t (p.h.csrc.length : Int) ((i + 1 : Nat) : Int) p.h.pad p.h.ext p.h.mark p.h.typ p.h.seq p.h.tm p.h.ssrc p.h.csrc p.prof p.ex p.pl p.padn) (fun k => ?_) ?_
    · conv => lhs; rw [place_Of.l0]
      rw [if_pos (by omega), w64 (by omega) (by omega)]
      rfl
    · refine Ev.bind (lay_ev (pp i) (by have := tt i; omega) 6 4 (by omega) (by omega)) ?_
      have := ih (i + 1) (by omega)
      have e : seg0 ++ segC i ++ one 6 4 = seg0 ++ segC (i + 1) := by
        rw [List.append_assoc]; congr 1; unfold segC one; rw [if_pos (by decide), List.replicate_succ']
      rw [e]
      exact this
/-- The places of bytes, and why there are none. -/
def ofM (l : List Int) : List S32 × Int := if (openM l).2.2 = 0 then (mk 0 (segs (openM l).1), 0) else ([], (openM l).2.2)
theorem openT_fit {left : List Int} (hb : Byt left) (h : Hd) (prof : Int) (ex : List Int) (h0 : (openT left h prof ex).2.2 = 0) :
    (openT left h prof ex).1.h = h ∧ (openT left h prof ex).1.ex = ex ∧ (openT left h prof ex).1.prof = prof ∧ 0 ≤ (openT left h prof ex).1.padn ∧ (openT left h prof ex).1.padn ≤ 255 ∧ (h.pad = true → 1 ≤ (openT left h prof ex).1.padn) ∧ (h.pad = false → (openT left h prof ex).1.padn = 0) ∧
    ((openT left h prof ex).1.pl.length : Int) + (openT left h prof ex).1.padn = left.length := by
  unfold openT at h0 ⊢
  by_cases c : h.pad = true
  · rw [if_pos c] at h0 ⊢
    by_cases c2 : trailM left = 0
    · rw [if_pos c2] at h0
      exact absurd h0 (by decide)
    · rw [if_neg c2]
      have ht := trailM_le left c2
      have h255 : trailM left ≤ 255 := by
        unfold trailM
        split
        · omega
        · split
          · omega
          · exact (brd hb _).2
      refine ⟨rfl, rfl, rfl, by dsimp only; omega, h255, fun _ => ht.1, fun hc => by simp [c] at hc, ?_⟩
      dsimp only
      rw [List.length_take]
      omega
  · rw [if_neg c]
    exact ⟨rfl, rfl, rfl, Int.le_refl _, by simp, fun h => absurd h c, fun _ => rfl, by simp⟩
theorem head_fit {l : List Int} (hb : Byt l) (h0 : (headM l).2.2 = 0) : (headM l).1.csrc.length ≤ 15 ∧ (headM l).2.1 = 12 + 4 * ((headM l).1.csrc.length : Int) ∧ (headM l).2.1 ≤ l.length := by
  unfold headM at h0 ⊢
  split at h0
  · exact absurd h0 (by decide)
  · split at h0
    · exact absurd h0 (by decide)
    · split at h0
      · exact absurd h0 (by decide)
      · rename_i h1 h2 h3
        have := brd hb 0
        rw [if_neg h1, if_neg h2, if_neg h3]
        simp only [words, List.length_map, List.length_range]
        omega
/-- What is right of a packet that is read. -/
theorem open_fit {l : List Int} (hb : Byt l) (h : (openM l).2.2 = 0) : Fit (openM l).1 ∧ tot (segs (openM l).1) = l.length := by
  have key : ∀ (p : Pk), (p.h.pad = true → 1 ≤ p.padn) → (p.h.pad = false → p.padn = 0) → 0 ≤ p.padn → tot (segs p) = 12 + 4 * (p.h.csrc.length : Int) + (if p.h.ext = true then 4 + (p.ex.length : Int) else 0) + p.pl.length + p.padn := by
    intro p h1 h2 h3
    unfold segs segP segX
    rw [tot_append, tot_append, tot_append, tot_append, tot_C, tot_one _ _ (by omega), show tot seg0 = 12 from rfl]
    have e1 : tot (if p.h.ext = true then one 7 2 ++ one 8 2 ++ one 9 (p.ex.length : Int) else []) = if p.h.ext = true then 4 + (p.ex.length : Int) else 0 := by
      split
      · rw [tot_append, tot_append, tot_one _ _ (by omega), tot_one _ _ (by omega), tot_one _ _ (by omega)]; omega
      · rfl
    have e2 : tot (if p.h.pad = true then one 11 (p.padn - 1) ++ one 12 1 else []) = p.padn := by
      by_cases c : p.h.pad = true
      · have := h1 c
        rw [if_pos c, tot_append, tot_one _ _ (by omega), tot_one _ _ (by omega)]; omega
      · rw [if_neg c, h2 (by simpa using c)]; rfl
    rw [e1, e2]
    omega
  unfold openM at h ⊢
  by_cases c : 65535 < l.length
  · rw [if_pos c] at h; exact absurd h (by decide)
  · rw [if_neg c] at h ⊢
    by_cases c1 : (headM l).2.2 ≠ 0
    · rw [if_pos c1] at h; exact absurd h c1
    · rw [if_neg c1] at h ⊢
      have hf := head_fit hb (by simpa using c1)
      generalize headM l = H at h hf c1 ⊢
      have hbl := hb.drop H.2.1.toNat
      have hll : (l.drop H.2.1.toNat).length = l.length - H.2.1.toNat := List.length_drop
      generalize l.drop H.2.1.toNat = left at h hbl hll ⊢
      by_cases c2 : H.1.ext = true
      · rw [if_pos c2] at h ⊢
        unfold openE at h ⊢
        by_cases c3 : left.length < 4
        · rw [if_pos c3] at h; exact absurd h (by decide)
        · rw [if_neg c3] at h ⊢
          by_cases c4 : (left.length : Int) - 4 < 4 * (rd left 2 * 256 + rd left 3)
          · rw [if_pos c4] at h; exact absurd h (by decide)
          · rw [if_neg c4] at h ⊢
            have r2 := brd hbl 2
            have r3 := brd hbl 3
            obtain ⟨e1, e2, e3, e4, e5, e6, e7, e8⟩ := openT_fit ((hbl.drop 4).drop _) H.1 (rd left 0 * 256 + rd left 1) ((left.drop 4).take (4 * (rd left 2 * 256 + rd left 3)).toNat) h
            generalize openT ((left.drop 4).drop (4 * (rd left 2 * 256 + rd left 3)).toNat) H.1 (rd left 0 * 256 + rd left 1) ((left.drop 4).take (4 * (rd left 2 * 256 + rd left 3)).toNat) = o at e1 e2 e3 e4 e5 e6 e7 e8 ⊢
            have hx : o.1.ex.length = (4 * (rd left 2 * 256 + rd left 3)).toNat := by rw [e2, List.length_take, List.length_drop]; omega
            rw [List.length_drop, List.length_drop] at e8
            have kk := key o.1 (by rw [e1]; exact e6) (by rw [e1]; exact e7) e4
            rw [if_pos (by rw [e1]; exact c2), e1] at kk
            refine ⟨⟨by rw [e1]; exact hf.1, by omega, by omega, e4, e5, by rw [e1]; exact e6⟩, ?_⟩
            omega
      · rw [if_neg c2] at h ⊢
        obtain ⟨e1, e2, e3, e4, e5, e6, e7, e8⟩ := openT_fit hbl H.1 0 [] h
        generalize openT left H.1 0 [] = o at e1 e2 e3 e4 e5 e6 e7 e8 ⊢
        have kk := key o.1 (by rw [e1]; exact e6) (by rw [e1]; exact e7) e4
        rw [if_neg (by rw [e1]; exact c2), e1] at kk
        refine ⟨⟨by rw [e1]; exact hf.1, by rw [e2]; decide, by omega, e4, e5, by rw [e1]; exact e6⟩, ?_⟩
        omega
theorem of_ev {l : List Int} (hb : Byt l) : Ev (fun k => place_Of.f k l) (ofM l) := by
  simp only [place_Of.f]
  refine Ev.bind (read_ev hb) ?_
  unfold ofM
  by_cases c : (openM l).2.2 = 0
  · obtain ⟨hf, _⟩ := open_fit hb c
    rw [if_pos c]
    generalize openM l = o at c hf
    dsimp only [pflat]
    simp only [if_pos c]
    have z : ∀ (x : List (Int × Int)) f s, Pos x → tot x ≤ 1000000 → -1000000 ≤ s → s ≤ 1000000 → Ev (fun k => place_lay.f k (mk 0 x) f [s]) (mk 0 (x ++ one f s)) := fun x f s hp ht h0 h1 => lay_ev hp ht f s h0 h1
    refine Ev.bind (z [] 1 1 (by intro q hq; cases hq) (by decide) (by omega) (by omega)) ?_
    refine Ev.bind (z [(1, 1)] 2 1 (by unfold Pos; simp) (by decide) (by omega) (by omega)) ?_
    refine Ev.bind (z [(1, 1), (2, 1)] 3 2 (by unfold Pos; simp) (by decide) (by omega) (by omega)) ?_
    refine Ev.bind (z [(1, 1), (2, 1), (3, 2)] 4 4 (by unfold Pos; simp) (by decide) (by omega) (by omega)) ?_
    refine Ev.bind (z [(1, 1), (2, 1), (3, 2), (4, 4)] 5 4 (by unfold Pos; simp) (by decide) (by omega) (by omega)) ?_
    exact of_l0 o.1 hf o.1.h.csrc.length 0 (by omega)
  · rw [if_neg c]
    generalize openM l = o at c
    refine Ev.eq fun k => ?_
    dsimp only [pflat]
    rw [if_neg c]
end Go.Proofs.Ytcbdgknfkoodoaa.S
