/- One step of a region, calls too. -/
import Derived.Test.YtkhheblmgbiniaaB2
namespace Go.Sy
open Go Go.RowKit

variable {N : Nat} {w0 : World} {C0 : CMap} {E : EX} {s : St} {a : Act} {w : World} {C : CMap} {ρ : RMap} {τ : TMap} {P : Program} {o : Oper} {e : Eff}

theorem ev_sound (h : RepG N w0 C0 E s a w C ρ τ) (hN : ∀ d, o.dst = some d → d < N) (he : ev P s o = some e) : Done N w0 C0 E P o a w (s.app o.dst e) := by
  cases ho : o.op with
  | move x => exact ev_move h hN ho he
  | assign x => exact ev_assign h hN ho he
  | pick c x y => exact ev_pick h hN ho he
  | alloc t => exact ev_alloc h hN ho he
  | box t x => exact ev_box h hN ho he
  | build t ps => exact ev_build h hN ho he
  | buildSlice t n ps => exact ev_buildSlice h hN ho he
  | load t x => exact ev_load h hN ho he
  | store t x y => exact ev_store h hN ho he
  | nilCheck x => exact ev_nilCheck h hN ho he
  | binOp op t x y u => exact ev_binOp h hN ho he
  | unOp op t x => exact ev_unOp h hN ho he
  | convert t u x => exact ev_convert h hN ho he
  | fieldAddr t x f => exact ev_fieldAddr h hN ho he
  | indexAddr t x i => exact ev_indexAddr h hN ho he
  | extract x i => exact ev_extract h hN ho he
  | makeSlice t x y => exact ev_makeSlice h hN ho he
  | makeFunc fn first caps =>
    cases fn with
    | func f => exact ev_makeFunc h hN ho he
    | _ => simp [ev, ho] at he
  | slice t x lo hi mx =>
    cases lo with
    | some _ => simp [ev, ho] at he
    | none =>
      cases hi with
      | none => simp [ev, ho] at he
      | some hi =>
        cases mx with
        | some _ => simp [ev, ho] at he
        | none => exact ev_slice h hN ho he
  | call c =>
    obtain ⟨callee, args, ts⟩ := c
    cases callee with
    | value f => simp [ev, ho] at he
    | invoke r m => simp [ev, ho] at he
    | builtin b =>
      cases b with
      | len => exact ev_len h hN ho he
      | append => exact ev_append h hN ho he
      | max => exact ev_maxmin (.inl rfl) h hN ho he
      | min => exact ev_maxmin (.inr rfl) h hN ho he
      | _ => simp [ev, ho] at he
  | _ => simp [ev, ho] at he

/-! ### Contracts -/
def CW (C : CMap) (w : World) : Prop := ∀ b o v, C b o = some v → w.cell? ⟨b, o, none⟩ = some v ∧ v.oneCell' = true
def Enters (P : Program) (f : FuncId) : Prop := ∀ (args : Array Value) (w : World), (callFunc f args).run P w = .ok (.enter f args) w
theorem enters_of {f : FuncId} {fn : Func} {c : Code} (hf : P.funcs[f]? = some fn) (hname : (fn.name == "runtime.NumGoroutine") = false) (hb : fn.body = some c) : Enters P f := by
  intro args w
  have h1 : fn.name ≠ "runtime.NumGoroutine" := by simpa using hname
  simp [callFunc, hf, h1, hb]

/-- The tokens that a call hands back: (0, 0, i). -/
structure Toks (C : CMap) (w : World) (τ : TMap) (n B : Nat) : Prop where
  k : ∀ k x, τ k = some x → k.1 = 0 ∧ k.2.1 = 0 ∧ k.2.2 < n
  w : ∀ k v m, τ k = some (v, m) → TokW C w v m (fun b => B ≤ b)
  j : ∀ k k' v v' m m' b, τ k = some (v, m) → τ k' = some (v', m') → blk v = some b → blk v' = some b → k = k'

/-- A function that turns nothing that was there. n: how many slices of its own it hands back. -/
structure Con (P : Program) (f : FuncId) (args : List AV) (n : Nat) (r : AV) : Prop where
  enters : Enters P f
  calls : ∀ (C : CMap) (w : World) (vs : Array Value), CW C w → vs.size = args.length → (∀ (i : Nat) (v : Value) (x : AV), vs[i]? = some v → args[i]? = some x → RV C noρ noτ v x) →
    Calls P f vs w fun e w' => ∃ v C' τ', e = .returned v ∧ Below w.heap.size w w' ∧ (∀ b o v, C b o = some v → C' b o = some v) ∧ (∀ b o v, C' b o = some v → C b o = some v ∨ w.heap.size ≤ b) ∧
      CW C' w' ∧ RV C' noρ τ' v r ∧ Toks C' w' τ' n w.heap.size

def fgtV : AV → AV
  | .agg l => .agg (l.map fgt)
  | a => fgt a
def cleanV : AV → Bool
  | .agg l => l.all clean
  | a => clean a
def renT (d g : Nat) : Tok → Tok
  | .own k => .own (d, g, k.2.2)
  | t => t
def ren0 (d g : Nat) : AV → AV
  | .list sz xs tk => .list sz xs (renT d g tk)
  | .agg _ | .tup _ => .any
  | a => a
def ren1 (d g : Nat) : AV → AV
  | .agg l => .agg (l.map (ren0 d g))
  | .tup _ => .any
  | a => ren0 d g a
def ren (d g : Nat) : AV → AV
  | .tup l => .tup (l.map (ren1 d g))
  | a => ren1 d g a

def argsAV (P : Program) (s : St) (args : List Operand) (ts : List TypeId) : List AV := List.zipWith (fun x t => fgtV (s.o P t x)) args ts

def CallEv (P : Program) (s : St) (o : Oper) (e : Eff) : Prop := match o.op with
  | .call { callee := .value g, args, argTypes } => ∃ f caps n r, s.o P 0 g = .clo f caps ∧ args.size ≤ argTypes.size ∧ (argsAV P s args.toList argTypes.toList).all cleanV = true ∧
      Con P f (argsAV P s args.toList argTypes.toList ++ caps) n r ∧ e = { v := ren (o.dst.getD 0) (s.g (o.dst.getD 0)) r, nt := n }
  | _ => False

def Ev (P : Program) (s : St) (o : Oper) (e : Eff) : Prop := ev P s o = some e ∨ CallEv P s o e

theorem fgtV_rv {v : Value} {x : AV} (h : RV C ρ τ v x) : RV C ρ τ v (fgtV x) := by
  cases hx : x with
  | agg l =>
    rw [hx] at h
    obtain ⟨cs, rfl, h1, h2, h3⟩ := rv_agg h
    refine .agg _ _ (by simpa using h1) (fun i v y hv hy => ?_) h3
    simp only [List.getElem?_map] at hy
    obtain ⟨z, hz, rfl⟩ := Option.map_eq_some_iff.1 hy
    exact fgt_rv (h2 i v z hv hz)
  | _ => rw [hx] at h; exact fgt_rv h

theorem cleanV_rv {v : Value} {x : AV} (h : RV C ρ τ v x) (hc : cleanV x = true) : RV C noρ noτ v x := by
  cases hx : x with
  | agg l =>
    rw [hx] at h hc
    obtain ⟨cs, rfl, h1, h2, h3⟩ := rv_agg h
    exact .agg _ _ h1 (fun i v y hv hy => clean_rv (h2 i v y hv hy) (List.all_eq_true.1 hc y (List.mem_of_getElem? hy))) h3
  | _ => rw [hx] at h hc; exact clean_rv h hc

theorem ren0_rv {τ' : TMap} {d g : Nat} {v : Value} {x : AV} (hτ : ∀ k y, τ k = some y → τ' (d, g, k.2.2) = some y) (h : RV C noρ τ v x) : RV C ρ τ' v (ren0 d g x) := by
  cases h with
  | list sz xs tk A n c cv hn hc hm hcell hrv htk =>
    refine .list sz xs _ A n c cv hn hc hm hcell hrv ?_
    cases tk with
    | no => trivial
    | nil => exact htk
    | own k => exact hτ _ _ htk
  | any v => exact .any v
  | v v h => exact .v v h
  | agg cs l hl h h1 => exact .any _
  | tup cs l hl h => exact .any _
  | box k b off h => cases h
  | ptr b o l cv h hr => exact .ptr b o l cv h hr
  | sl k b n c sz h hc hm => cases h
  | clo f cs l hl h => exact .clo f cs l hl h

theorem ren1_rv {τ' : TMap} {d g : Nat} {v : Value} {x : AV} (hτ : ∀ k y, τ k = some y → τ' (d, g, k.2.2) = some y) (h : RV C noρ τ v x) : RV C ρ τ' v (ren1 d g x) := by
  cases hx : x with
  | agg l =>
    rw [hx] at h
    obtain ⟨cs, rfl, h1, h2, h3⟩ := rv_agg h
    refine .agg _ _ (by simpa using h1) (fun i v y hv hy => ?_) h3
    simp only [List.getElem?_map] at hy
    obtain ⟨z, hz, rfl⟩ := Option.map_eq_some_iff.1 hy
    exact ren0_rv hτ (h2 i v z hv hz)
  | tup l => exact .any _
  | _ => rw [hx] at h; exact ren0_rv hτ h

theorem rv_tup {v : Value} {l : List AV} (h : RV C ρ τ v (.tup l)) : ∃ cs, v = .tuple cs ∧ cs.size = l.length ∧ (∀ (i : Nat) (u : Value) (y : AV), cs[i]? = some u → l[i]? = some y → RV C ρ τ u y) := by
  cases h; exact ⟨_, rfl, by assumption, by assumption⟩

theorem ren_rv {τ' : TMap} {d g : Nat} {v : Value} {x : AV} (hτ : ∀ k y, τ k = some y → τ' (d, g, k.2.2) = some y) (h : RV C noρ τ v x) : RV C ρ τ' v (ren d g x) := by
  cases hx : x with
  | tup l =>
    rw [hx] at h
    obtain ⟨cs, rfl, h1, h2⟩ := rv_tup h
    refine .tup _ _ (by simpa using h1) (fun i v y hv hy => ?_)
    simp only [List.getElem?_map] at hy
    obtain ⟨z, hz, rfl⟩ := Option.map_eq_some_iff.1 hy
    exact ren1_rv hτ (h2 i v z hv hz)
  | _ => rw [hx] at h; exact ren1_rv hτ h

/-- The state takes a call's tokens over. -/
theorem RepG.toks (h : RepG N w0 C0 E s a w C ρ τ) (d : Nat) {τ1 : TMap} {n B : Nat} (ht : Toks C w τ1 n B) (hB0 : w0.heap.size ≤ B) (hB : ∀ k Bx, s.b k = some Bx → ∀ b, ρ k = some b → b < B)
    (hT : ∀ k v m, τ k = some (v, m) → s.d k = false → ∀ b, blk v = some b → b < B) :
    ∃ τ', RepG N w0 C0 E { s with d := crt d (s.g d) n s.d, g := if 0 < n then upd s.g d (s.g d + 1) else s.g } a w C ρ τ' ∧ (∀ k y, τ1 k = some y → τ' (d, s.g d, k.2.2) = some y) ∧ (∀ k y, τ k = some y → τ' k = some y) := by
  by_cases hn : n = 0
  · subst hn
    refine ⟨τ, by simpa [crt_zero] using h, ?_, fun _ _ h => h⟩
    intro k y hk
    have := (ht.k k y hk).2.2
    omega
  · have hpos : 0 < n := by omega
    simp only [hpos, if_true]
    let f : Key → Option (Value × Nat) := fun k => if k.1 = d ∧ k.2.1 = s.g d then τ1 (0, 0, k.2.2) else τ k
    have fnew : ∀ k, (k.1 = d ∧ k.2.1 = s.g d) → f k = τ1 (0, 0, k.2.2) := fun k hk => if_pos hk
    have fold' : ∀ k, ¬ (k.1 = d ∧ k.2.1 = s.g d) → f k = τ k := fun k hk => if_neg hk
    have up : ∀ k y, τ k = some y → f k = some y := by
      intro k y hk
      rw [fold' k]
      · exact hk
      · rintro ⟨h1, h2⟩
        have := h.fτ _ _ hk
        rw [h1, h2] at this
        omega
    have mono : ∀ {v' : Value} {x : AV}, RV C ρ τ v' x → RV C ρ f v' x := fun hv => hv.mono (fun _ _ _ h => h) (fun _ _ h => h) up
    have gup : ∀ (k' : Key), k'.2.1 < s.g k'.1 → k'.2.1 < upd s.g d (s.g d + 1) k'.1 := by
      intro k' hlt
      rw [upd_at]
      split
      · rename_i e; rw [e] at hlt; omega
      · exact hlt
    have live : ∀ k, crt d (s.g d) n s.d k = false → ¬ (k.1 = d ∧ k.2.1 = s.g d) → s.d k = false := by
      intro k hk hne
      simp only [crt] at hk
      rw [if_neg (fun hh => hne ⟨hh.1, hh.2.1⟩)] at hk
      exact hk
    refine ⟨f, ?_, ?_, up⟩
    · exact { h with
        tm := fun t => mono (h.tm t)
        bx := by
          intro k' B hB
          obtain ⟨b', hρ, ⟨⟨cs, ty, g1, g2, g3, g4, g5⟩, g6⟩, g7⟩ := h.bx k' B hB
          exact ⟨b', hρ, ⟨⟨cs, ty, g1, g2, g3, fun i v x hc hx => mono (g4 i v x hc hx), g5⟩, g6⟩, g7⟩
        tk := by
          intro k' v m hk' hd
          by_cases hc : k'.1 = d ∧ k'.2.1 = s.g d
          · rw [fnew _ hc] at hk'
            obtain ⟨A, n', c, rfl, g1⟩ := ht.w _ _ _ hk'
            refine ⟨A, n', c, rfl, ?_⟩
            rcases g1 with g1 | ⟨b, cs, ty, hA, g2, g3, g4, g5, g6, g7⟩
            · exact .inl g1
            · refine .inr ⟨b, cs, ty, hA, g2, g3, g4, g5, g6, .inl (by omega), ?_⟩
              intro k2 Bx hBx hr
              have := hB k2 Bx hBx b hr
              omega
          · rw [fold' _ hc] at hk'
            exact h.tk _ _ _ hk' (live _ hd hc)
        tj := by
          intro k1 k2 v1 v2 n1 n2 b e1 e2 d1 d2 r1 r2
          have tb : ∀ {k : Key} {v : Value} {m : Nat}, τ1 (0, 0, k.2.2) = some (v, m) → blk v = some b → B ≤ b := by
            intro k v m hk hr
            obtain ⟨A, n', c, rfl, g1⟩ := ht.w _ _ _ hk
            obtain ⟨hc, ad, rfl, hb⟩ := blk_cap hr
            rcases g1 with g1 | ⟨b', cs, ty, hA, _, _, _, _, _, g7⟩
            · exact absurd g1 hc
            · cases hA; subst hb; exact g7
          by_cases c1 : k1.1 = d ∧ k1.2.1 = s.g d
          · by_cases c2 : k2.1 = d ∧ k2.2.1 = s.g d
            · rw [fnew _ c1] at e1
              rw [fnew _ c2] at e2
              have := ht.j _ _ _ _ _ _ _ e1 e2 r1 r2
              simp only [Prod.mk.injEq, true_and] at this
              exact Prod.ext (by rw [c1.1, c2.1]) (Prod.ext (by rw [c1.2, c2.2]) this)
            · rw [fnew _ c1] at e1
              rw [fold' _ c2] at e2
              have h1 := tb e1 r1
              have h2 := hT _ _ _ e2 (live _ d2 c2) _ r2
              omega
          · by_cases c2 : k2.1 = d ∧ k2.2.1 = s.g d
            · rw [fold' _ c1] at e1
              rw [fnew _ c2] at e2
              have h1 := tb e2 r2
              have h2 := hT _ _ _ e1 (live _ d1 c1) _ r1
              omega
            · rw [fold' _ c1] at e1
              rw [fold' _ c2] at e2
              exact h.tj _ _ _ _ _ _ _ e1 e2 (live _ d1 c1) (live _ d2 c2) r1 r2
        fρ := fun k' x e => gup _ (h.fρ _ _ e)
        fτ := by
          intro k' x e
          by_cases c : k'.1 = d ∧ k'.2.1 = s.g d
          · rw [c.1, c.2]; simp [upd]
          · rw [fold' _ c] at e; exact gup _ (h.fτ _ _ e) }
    · intro k y hk
      have h1 := ht.k k y hk
      have : f (d, s.g d, k.2.2) = τ1 (0, 0, k.2.2) := fnew _ ⟨rfl, rfl⟩
      rw [this, ← hk]
      congr 1
      exact Prod.ext h1.1.symm (Prod.ext h1.2.1.symm rfl)

theorem app_call (s : St) (d : Nat) (x : AV) (n : Nat) : s.app (some d) { v := x, nt := n } = St.set { s with d := crt d (s.g d) n s.d, g := if 0 < n then upd s.g d (s.g d + 1) else s.g } d x := by
  simp [St.app, St.set, sto]

/-- One operation. -/
theorem step_sound {Q : Exit → Act → World → Prop} {K : Act → World → Prop} (h : Rep N w0 C0 E s a w) (hN : ∀ d, o.dst = some d → d < N) (he : Ev P s o e)
    (hK : ∀ a' w', Rep N w0 C0 E (s.app o.dst e) a' w' → K a' w') : o.wp P a w K Q := by
  obtain ⟨C, ρ, τ, h⟩ := h
  rcases he with he | he
  · obtain ⟨v, w', hr, hrep⟩ := ev_sound h hN he
    unfold Oper.wp
    rcases hr with hr | ⟨hr, rfl⟩
    · rw [hr]; exact hK _ _ hrep
    · rw [hr]; exact hK _ _ hrep
  · unfold CallEv at he
    split at he
    case h_2 => exact he.elim
    rename_i g args ts ho
    obtain ⟨f, caps, n, r, hg, hts, hcl, hcon, rfl⟩ := he
    have hgv := opnd (P := P) h 0 g
    rw [hg] at hgv
    have hfn : ∃ cs, a.eval g = .func (.func f) #[] cs ∧ cs.size = caps.length ∧ (∀ (i : Nat) (v : Value) (x : AV), cs[i]? = some v → caps[i]? = some x → RV C noρ noτ v x) := by
      generalize a.eval g = v at hgv
      cases hgv
      exact ⟨_, rfl, by assumption, by assumption⟩
    obtain ⟨cs, hfv, hcs1, hcs2⟩ := hfn
    have hrun : (execOp a.eval o).run P w = .ok (.enter f (args.map a.eval ++ cs)) w := by
      simp [execOp, ho, resolve, hfv, Deferred.ofValue, invoke, hcon.enters _ _]
    unfold Oper.wp
    rw [hrun]
    simp only [Oper.upon]
    have hlen : (argsAV P s args.toList ts.toList).length = args.size := by
      simp only [argsAV, List.length_zipWith, Array.length_toList]; omega
    refine (hcon.calls C w (args.map a.eval ++ cs) h.cw (by simp [hlen, hcs1]) ?_).mono ?_
    · intro i v x hv hx
      by_cases hi : i < args.size
      · rw [Array.getElem?_append_left (by simpa using hi)] at hv
        rw [List.getElem?_append_left (by omega)] at hx
        simp only [Array.getElem?_map] at hv
        obtain ⟨y, hy, rfl⟩ := Option.map_eq_some_iff.1 hv
        have hmem := List.mem_of_getElem? hx
        have hcx := List.all_eq_true.1 hcl x hmem
        simp only [argsAV, List.getElem?_zipWith] at hx
        split at hx
        · rename_i y' t' hy' ht'
          cases hx
          simp only [Array.getElem?_toList] at hy'
          rw [hy] at hy'
          cases hy'
          exact cleanV_rv (fgtV_rv (opnd h t' y)) hcx
        · cases hx
      · rw [Array.getElem?_append_right (by simp; omega)] at hv
        rw [List.getElem?_append_right (by omega)] at hx
        simp only [Array.size_map, hlen] at hv hx
        exact hcs2 _ _ _ hv hx
    · rintro e' w' ⟨v, C', τ', rfl, hb, hC1, hC2, hcw, hr, ht⟩
      have h1 := h.grow hb hC1 hC2 (fun b o v _ hv => hcw b o v hv)
      apply hK
      cases hd : o.dst with
      | none => exact ⟨_, _, _, h1⟩
      | some d =>
        obtain ⟨τ2, h2, h3, h4⟩ := h1.toks d ht h.fr.size (fun k Bx hB b hρ => by
            obtain ⟨b', hρ', ⟨⟨cs, ty, g1, _⟩, _⟩, _⟩ := h.bx k Bx hB
            rw [hρ] at hρ'; cases hρ'
            exact heap_lt g1) (fun k v m hk hd b hb => by
            obtain ⟨A, n', c, rfl, g1⟩ := h.tk k v m hk hd
            obtain ⟨hc, ad, rfl, hb2⟩ := blk_cap hb
            rcases g1 with g1 | ⟨b', cs, ty, hA, g2, _⟩
            · exact absurd g1 hc
            · cases hA; subst hb2; exact heap_lt g2)
        rw [app_call]
        exact ⟨_, _, _, h2.set d (hN d hd) (ren_rv h3 hr)⟩

end Go.Sy
