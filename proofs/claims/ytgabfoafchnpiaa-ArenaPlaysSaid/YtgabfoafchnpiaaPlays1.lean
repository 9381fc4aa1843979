/- ArenaPlays: what the law and the arena hold in the middle of a round, and how each step changes it. -/
import Derived.Test.YtgabfoafchnpiaaPlays0
namespace Go.Proofs.Ytgabfoafchnpiaa.Hand
open Go.RowKit Go.Proofs.Ytgabfoafchnpiaa.QAll Go.Proofs.YtgabfoafchnpiaaW.PrintWords Go.Proofs.YtgabfoafchnpiaaW.PrintLast Go.Proofs.YtgabfoafchnpiaaW.PrintMore Go.Proofs.Ytgabfoafchnpiaa.Nums
set_option linter.unusedVariables false
set_option linter.unusedSimpArgs false

structure Half (w W : World) (g gm gb go gw gi g9 : Nat) (M : Int) (xs : Array Value) (LA : List Int) (oA : Bool) (v : Value) (LB : List Int) (oB : Bool) (vb : Value) (want : Int) (is : Bool) : Prop where
  arn : Arn w.heap.size W g v LA M oA
  vm : Var W gm 3 (.int .i64 M)
  bx : Var W gb 23 vb
  vo : Var W go 4 (.bool oB)
  own : W.ownsRow w.heap.size 5 1 vb LB.length (nums .u8 LB)
  sep : ∀ k, v.ownBlock = some k → vb.ownBlock ≠ some k
  below : Below w.heap.size w W
  base : w.heap.size ≤ gm ∧ w.heap.size ≤ gb ∧ w.heap.size ≤ go
  vw : Var W gw 3 (.int .i64 want)
  vi : Var W gi 4 (.bool is)
  x : W.heap[g9]? = some (.cells xs 62 (0, 0))
  far : gm ≠ gw ∧ go ≠ gi ∧ w.heap.size ≤ gw ∧ w.heap.size ≤ gi ∧ w.heap.size ≤ g9

section half
variable {w W W' : World} {g gm gb go gw gi g9 : Nat} {M : Int} {xs : Array Value} {LA : List Int} {oA : Bool} {v : Value} {LB : List Int} {oB : Bool} {vb : Value} {want : Int} {is : Bool}
theorem Arn.not_var (h : Arn w.heap.size W g v LA M oA) {k : Nat} {t : TypeId} {u : Array Value} (hk : W.heap[k]? = some (.cells u t (0, 0))) (ht : t ≠ 69) : k ≠ g := by
  rintro rfl
  have h3 := hk.symm.trans h.1
  injection h3 with e; injection e with _ e; exact ht e
/-- A call on the arena. -/
theorem Half.arena (h : Half w W g gm gb go gw gi g9 M xs LA oA v LB oB vb want is) {v' : Value} {LA' : List Int} {oA' : Bool} (ha : Arn w.heap.size W' g v' LA' M oA') (hs : Stays W W' g v v') :
    Half w W' g gm gb go gw gi g9 M xs LA' oA' v' LB oB vb want is := by
  have one : ∀ {k : Nat} {t : TypeId} {u : Array Value}, W.heap[k]? = some (.cells u t (0, 0)) → t ≠ 69 → t ≠ 5 → W'.heap[k]? = some (.cells u t (0, 0)) := fun hk h1 h2 =>
    (hs.block _ (blk_lt hk) (h.arn.not_var hk h1) (own_ne h.arn.2.2 hk (Ne.symm h2))).trans hk
  refine ⟨ha, one h.vm (by decide) (by decide), one h.bx (by decide) (by decide), one h.vo (by decide) (by decide), ?_, ?_, ?_, h.base, one h.vw (by decide) (by decide), one h.vi (by decide) (by decide), one h.x (by decide) (by decide), h.far⟩
  · refine own_eq_of_blocks h.own fun k hk => ?_
    rcases h.own.2 with ⟨e, _⟩ | ⟨b, cap, cur, rfl, _, hh, _⟩
    · rw [e] at hk; simp [Value.ownBlock] at hk
    · have e : b = k := by simpa [Value.ownBlock] using hk
      subst e
      have hl := (Array.getElem?_eq_some_iff.1 hh).1
      exact hs.block b hl (h.arn.not_var hh (by decide)) (fun e => h.sep b e.symm rfl)
  · intro k hk he
    rcases hs.own with e | ⟨b, e, hb⟩
    · exact h.sep k (e ▸ hk) he
    · rw [e] at hk; injection hk with hk; subst hk
      rcases h.own.2 with ⟨e, _⟩ | ⟨b', cap, cur, rfl, _, hh, _⟩
      · rw [e] at he; simp [Value.ownBlock] at he
      · have e : b' = b := by simpa [Value.ownBlock] using he
        subst e
        have := (Array.getElem?_eq_some_iff.1 hh).1; omega
  · exact h.below.trans (h.arn.below h.below.size hs)
/-- New memory, draws: nothing changes. -/
theorem Half.kept (h : Half w W g gm gb go gw gi g9 M xs LA oA v LB oB vb want is) (hb : Below W.heap.size W W') : Half w W' g gm gb go gw gi g9 M xs LA oA v LB oB vb want is :=
  have one : ∀ {k : Nat} {t : TypeId} {u : Array Value}, W.heap[k]? = some (.cells u t (0, 0)) → W'.heap[k]? = some (.cells u t (0, 0)) := fun hk => (hb.block _ (blk_lt hk)).trans hk
  ⟨h.arn.kept hb, one h.vm, one h.bx, one h.vo, pw_own_below h.own hb, h.sep, below_then h.below h.below.size hb, h.base, one h.vw, one h.vi, one h.x, h.far⟩
theorem Half.step (h : Half w W g gm gb go gw gi g9 M xs LA oA v LB oB vb want is) {ex : Nat → Prop} (hr : Rest W W' ex) {vb' : Value} {LB' : List Int} {oB' : Bool} {want' : Int} {is' : Bool}
    (hb : Var W' gb 23 vb') (ho : Var W' go 4 (.bool oB')) (hw : Var W' gw 3 (.int .i64 want')) (hi : Var W' gi 4 (.bool is')) (hown : W'.ownsRow w.heap.size 5 1 vb' LB'.length (nums .u8 LB'))
    (hat : vb'.ownBlock = vb.ownBlock ∨ ∃ k, vb'.ownBlock = some k ∧ W.heap.size ≤ k) (hex : ∀ k, ex k → k = gb ∨ k = go ∨ k = gw ∨ k = gi ∨ some k = vb.ownBlock) :
    Half w W' g gm gb go gw gi g9 M xs LA oA v LB' oB' vb' want' is' := by
  have gne : ∀ {t : TypeId} {u : Array Value} {k : Nat}, W.heap[k]? = some (.cells u t (0, 0)) → t ≠ 23 → t ≠ 4 → t ≠ 3 → t ≠ 5 → ¬ ex k := by
    intro t u k hk h1 h2 h3 h4 he
    rcases hex k he with rfl | rfl | rfl | rfl | e
    · have := hk.symm.trans h.bx; injection this with e; injection e with _ e; exact h1 e
    · have := hk.symm.trans h.vo; injection this with e; injection e with _ e; exact h2 e
    · have := hk.symm.trans h.vw; injection this with e; injection e with _ e; exact h3 e
    · have := hk.symm.trans h.vi; injection this with e; injection e with _ e; exact h2 e
    · exact own_ne h.own hk (Ne.symm h4) e
  have hm : ¬ ex gm := by
    intro he
    rcases hex gm he with e | e | e | e | e
    · exact h.vm.ne h.bx (by decide) e
    · exact h.vm.ne h.vo (by decide) e
    · exact h.far.1 e
    · exact h.vm.ne h.vi (by decide) e
    · exact own_ne h.own h.vm (by decide) e
  have hg := gne h.arn.1 (by decide) (by decide) (by decide) (by decide)
  refine ⟨⟨(hr.block g h.arn.lt hg).trans h.arn.1, h.arn.2.1, own_eq_of_blocks h.arn.2.2 fun k hk => ?_⟩, (hr.block gm h.vm.lt hm).trans h.vm, hb, ho, hown, ?_, ?_, h.base, hw, hi, (hr.block g9 (blk_lt h.x) (gne h.x (by decide) (by decide) (by decide) (by decide))).trans h.x, h.far⟩
  · have hl : k < W.heap.size := by
      rcases h.arn.2.2.2 with ⟨e, _⟩ | ⟨b, cap, cur, rfl, _, hh, _⟩
      · rw [e] at hk; simp [Value.ownBlock] at hk
      · have e : b = k := by simpa [Value.ownBlock] using hk
        subst e; exact (Array.getElem?_eq_some_iff.1 hh).1
    refine hr.block k hl fun he => ?_
    rcases hex k he with rfl | rfl | rfl | rfl | e
    · exact own_ne h.arn.2.2 h.bx (by decide) hk.symm
    · exact own_ne h.arn.2.2 h.vo (by decide) hk.symm
    · exact own_ne h.arn.2.2 h.vw (by decide) hk.symm
    · exact own_ne h.arn.2.2 h.vi (by decide) hk.symm
    · exact h.sep k hk e.symm
  · intro k hk he
    rcases hat with e | ⟨b, e, hb⟩
    · exact h.sep k hk (e ▸ he)
    · rw [e] at he; injection he with he; subst he
      rcases h.arn.2.2.2 with ⟨e, _⟩ | ⟨b', cap, cur, rfl, _, hh, _⟩
      · rw [e] at hk; simp [Value.ownBlock] at hk
      · have e : b' = b := by simpa [Value.ownBlock] using hk
        subst e
        have := (Array.getElem?_eq_some_iff.1 hh).1; omega
  · refine h.below.trans ⟨hr.os, hr.tape, hr.output, hr.size, fun k hk => hr.block k (Nat.lt_of_lt_of_le hk h.below.size) fun he => ?_⟩
    have hb := h.base
    have hf := h.far
    rcases hex k he with e | e | e | e | e
    · omega
    · omega
    · omega
    · omega
    · have := own_base h.own k e.symm; omega
theorem Rest.set (W : World) (k : Nat) (u : Value) : Rest W (W.setCell ⟨k, 0, none⟩ u) (fun j => j = k) := ⟨rfl, rfl, rfl, by simp, fun j _ hj => Below.heap_setCell W ⟨k, 0, none⟩ u j hj⟩
/-- The law is over, too. -/
theorem Half.over (h : Half w W g gm gb go gw gi g9 M xs LA oA v LB oB vb want is) (b : Bool) : Half w (W.setCell ⟨go, 0, none⟩ (.bool b)) g gm gb go gw gi g9 M xs LA oA v LB b vb want is :=
  h.step (Rest.set W go _) (h.bx.far (h.bx.ne h.vo (by decide)) _) (h.vo.set _) (h.vw.far (h.vw.ne h.vo (by decide)) _) (h.vi.far (Ne.symm h.far.2.1) _) (own_setCell (p := ⟨go, 0, none⟩) h.own (own_ne h.own h.vo (by decide)) _) (.inl rfl) (fun k e => .inr (.inl e))
theorem Half.setw (h : Half w W g gm gb go gw gi g9 M xs LA oA v LB oB vb want is) (x : Int) : Half w (W.setCell ⟨gw, 0, none⟩ (.int .i64 x)) g gm gb go gw gi g9 M xs LA oA v LB oB vb x is :=
  h.step (Rest.set W gw _) (h.bx.far (h.bx.ne h.vw (by decide)) _) (h.vo.far (h.vo.ne h.vw (by decide)) _) (h.vw.set _) (h.vi.far (h.vi.ne h.vw (by decide)) _) (own_setCell (p := ⟨gw, 0, none⟩) h.own (own_ne h.own h.vw (by decide)) _) (.inl rfl) (fun k e => .inr (.inr (.inl e)))
theorem Half.seti (h : Half w W g gm gb go gw gi g9 M xs LA oA v LB oB vb want is) (b : Bool) : Half w (W.setCell ⟨gi, 0, none⟩ (.bool b)) g gm gb go gw gi g9 M xs LA oA v LB oB vb want b :=
  h.step (Rest.set W gi _) (h.bx.far (h.bx.ne h.vi (by decide)) _) (h.vo.far h.far.2.1 _) (h.vw.far (h.vw.ne h.vi (by decide)) _) (h.vi.set _) (own_setCell (p := ⟨gi, 0, none⟩) h.own (own_ne h.own h.vi (by decide)) _) (.inl rfl) (fun k e => .inr (.inr (.inr (.inl e))))
theorem Half.copied (h : Half w W g gm gb go gw gi g9 M xs LA oA v LB oB vb want is) {g' : Nat} (hvb : vb.ownBlock = some g') {LB' : List Int} (hown : W'.ownsRow w.heap.size 5 1 vb LB'.length (nums .u8 LB')) (hg : W.grownBy W' (some g')) :
    Half w W' g gm gb go gw gi g9 M xs LA oA v LB' oB vb want is := by
  have one : ∀ {k : Nat} {t : TypeId} {u : Array Value}, W.heap[k]? = some (.cells u t (0, 0)) → t ≠ 5 → W'.heap[k]? = some (.cells u t (0, 0)) := fun hk h2 =>
    (hg.block _ (blk_lt hk) (fun e => own_ne h.own hk (Ne.symm h2) (by rw [hvb]; exact e))).trans hk
  exact h.step ⟨hg.os, hg.tape, hg.output, hg.size, fun k hk hne => hg.block k hk (fun e => hne e)⟩ (one h.bx (by decide)) (one h.vo (by decide)) (one h.vw (by decide)) (one h.vi (by decide)) hown (.inl rfl) (fun k e => .inr (.inr (.inr (.inr (by rw [hvb]; exact e)))))
end half
end Go.Proofs.Ytgabfoafchnpiaa.Hand
