/- What a law's call leaves, out of its contract; the arguments' types. -/
import Derived.Test.YtkhheblmgbiniaaR0
namespace Go.Sy
open Go Go.Proofs Go.RowKit Go.Proofs.Ytkhheblmgbiniaa

variable {H : Type} {enc : TypeId × Value → H} {W : World} {sp : Nat → Bool} {held : Bool}

theorem Opens.mono {P : Program} {t : TypeId} {S S' : List AV → Prop} (h : Opens P t S) (hS : ∀ x, S x → S' x) : Opens P t S' := by
  refine ⟨fun {H} enc W sp held fuel cs d hd => ?_⟩
  obtain ⟨x, q1, q2⟩ := h.get enc W sp held fuel cs d hd
  exact ⟨x, hS x q1, q2⟩

theorem listOf {β : Type} {f : β → List AV} {xs : List (List AV)} (h : ∀ y ∈ xs, ∃ b, y = f b) : ∃ l : List β, xs = l.map f := by
  induction xs with
  | nil => exact ⟨[], rfl⟩
  | cons x xs ih =>
    obtain ⟨b, rfl⟩ := h x (by simp)
    obtain ⟨l, rfl⟩ := ih (fun y hy => h y (by simp [hy]))
    exact ⟨b :: l, rfl⟩

/-- The arguments stay as they were. -/
theorem trodAll_below {P : Program} (hl : laidOutB P = true) {W W' : World} (hb : Below W.heap.size W W') {sp' : Nat → Bool} : ∀ {ts : List TypeId} {vs : List Value} {ds : List (DataW H)} {ps : List MemPlace},
    (∀ t ∈ ts, P.readableRec t = true ∧ t < P.types.size) → DataW.TrodAll enc P W 0 (fun _ => true) true ts vs ds ps → (∀ x ∈ ps, x.block < W.heap.size) → (∀ p ∈ ps, sp' p.block = true) → DataW.TrodAll enc P W' 0 sp' true ts vs ds ps
  | [], [], [], ps, _, h, _, _ => h
  | t :: ts, v :: vs, d :: ds, ps, hr, h, hlt, hsp => by
    obtain ⟨p, q, h1, h2, rfl⟩ := h
    exact ⟨p, q, WideElems.Trod_stays hl (hr t (by simp)).1 (hr t (by simp)).2 h1 (fun x hx => hb.same (hlt x (by simp [hx]))) (fun x hx => hsp x (by simp [hx])),
      trodAll_below hl hb (fun t ht => hr t (by simp [ht])) h2 (fun x hx => hlt x (by simp [hx])) (fun x hx => hsp x (by simp [hx])), rfl⟩
  | [], _ :: _, _, _, _, h, _, _ => by simp [DataW.TrodAll] at h
  | [], [], _ :: _, _, _, h, _, _ => by simp [DataW.TrodAll] at h
  | _ :: _, [], _, _, _, h, _, _ => by simp [DataW.TrodAll] at h
  | _ :: _, _ :: _, [], _, _, h, _, _ => by simp [DataW.TrodAll] at h

set_option maxRecDepth 8000 in
theorem law_post {f : FuncId} {fn : Func} {s : ChangeSpec} {args : Array Value} {ds gs : List (DataW H)} {before : List MemPlace} {avs : List AV} {apart : Bool} (hl : laidOutB Try.prog = true) (hbool : Try.prog.underlying 4 = some .bool)
    (hW : DataW.Whole enc Try.prog fn.params.toList s.vars apart W args.toList ds gs before) (hvars : s.vars = []) (hrt : fn.resultTypes = #[4]) (hspec : s.fn H (ds ++ gs) = { results := [.lit (.bool true)], args := ds })
    (hread : (fn.params.toList.all fun t => Try.prog.readableRec t && decide (t < Try.prog.types.size)) = true) (hcon : Con Try.prog f avs 0 (bv true)) (hsz : args.size = avs.length)
    (hrv : ∀ (i : Nat) (v : Value) (x : AV), args[i]? = some v → avs[i]? = some x → RV (cmap W) noρ noτ v x) :
    Calls Try.prog f args W fun e W' => ∃ v, e = .returned v ∧ s.post enc Try.prog fn apart true false false W args v W' := by
  refine (hcon.calls (cmap W) W args (cmap_cw W) hsz hrv).mono ?_
  rintro e W' ⟨v, C', τ', rfl, hb, _, _, _, hv, _⟩
  obtain ⟨rfl, _⟩ := rv_v hv
  refine ⟨_, rfl, ?_⟩
  have hW' := hW
  obtain ⟨p, q, h1, h2, rfl, _, _⟩ := hW'
  rw [hvars] at h2
  obtain ⟨rfl, rfl⟩ := ChangeShapes.trodVars_none h2
  have hlt : ∀ x ∈ p, x.block < W.heap.size := fun x hx => hW.lt x (by simp [hx])
  refine ⟨ds, [], p ++ [], [], p, [], hW, ?_, ?_, ?_, World.keptBut_mono (fun x hx => ⟨hx, .inr (.inl (by simpa using hx))⟩) (hb.frame _), fun h => by cases h⟩
  · rw [hspec, hrt]
    refine ⟨[], [], ⟨1, ?_⟩, rfl, rfl⟩
    simp [Value.cells, DataW.trod, hbool]
  · rw [hspec]
    exact trodAll_below hl hb (fun t ht => by simpa using List.all_eq_true.1 hread t ht) h1 hlt (fun x hx => by simpa using hlt x hx)
  · rw [hvars, hspec]
    rfl

set_option maxRecDepth 8000 in
theorem open_agg {t : TypeId} {fs : Array Field} {S : List AV → Prop} {base : Nat} {v : Value} {d : DataW H} {p : List MemPlace} (hu : Try.prog.underlying t = some (.struct fs)) (ho : Opens Try.prog t S) (hval : Value.okWide Try.prog W .any base t v)
    (h : DataW.Trod enc Try.prog W 0 sp held t v d p) : ∃ x, S x ∧ RV (cmap W) noρ noτ v (.agg x) := by
  simp only [Value.okWide, hu] at hval
  obtain ⟨cs, rfl, _, _⟩ := hval
  obtain ⟨fuel, h⟩ := h
  obtain ⟨x, q1, q2, q3, q4, q5⟩ := ho.get enc W sp held fuel _ _ h
  refine ⟨x, q1, .agg _ _ ?_ (fun i v a hv ha => q5 i v a ?_ ha) (fun i v hv => q4 v ?_)⟩
  · have : cs.toList.length = x.length := q3.symm
    simpa using this
  · show cs.toList[i]? = some v
    simpa using hv
  · show v ∈ cs.toList
    exact Array.mem_toList_iff.2 (Array.mem_of_getElem? hv)

/-! ### Types -/
theorem opensInt : Opens Try.prog 3 (fun x => ∃ n : Int, x = [iv n]) := (opens_int (k := .i64) (by kernel_rfl) (by kernel_rfl)).mono fun x ⟨n, _, h⟩ => ⟨n, h⟩
theorem opensInts : Opens Try.prog 22 (fun x => ∃ l, x = [lv l]) := (opens_slice (e := 3) (sz := 1) (by kernel_rfl) (by kernel_rfl) (by kernel_rfl) (by decide) opensInt).mono fun x ⟨xs, h, hx⟩ => by
  obtain ⟨l, rfl⟩ := listOf (f := fun n => [iv n]) (fun y hy => (h y hy).1)
  exact ⟨l, hx⟩
theorem opensEdge : Opens Try.prog 105 (fun x => ∃ e : Ed, x = ecs e) := (opens_struct (n := 3) (Ss := [(1, _), (1, _), (1, _)]) Try.underlying105 (by kernel_rfl) ⟨rfl, by kernel_rfl, opensInt, rfl, by kernel_rfl, opensInt, rfl, by kernel_rfl, opensInt, rfl⟩).mono fun x h => by
  obtain ⟨_, _, ⟨a, rfl⟩, ⟨_, _, ⟨b, rfl⟩, ⟨_, _, ⟨c, rfl⟩, rfl, rfl⟩, rfl⟩, rfl⟩ := h
  exact ⟨(a, b, c), rfl⟩
theorem opensEdges : Opens Try.prog 23 (fun x => ∃ l, x = [elv l]) := (opens_slice (e := 105) (sz := 3) (by kernel_rfl) (by kernel_rfl) (by kernel_rfl) (by decide) opensEdge).mono fun x ⟨xs, h, hx⟩ => by
  obtain ⟨l, rfl⟩ := listOf (f := ecs) (fun y hy => (h y hy).1)
  exact ⟨l, hx⟩
theorem opensGraph : Opens Try.prog 25 (fun x => ∃ g, x = gcs g) := (opens_struct (n := 2) (Ss := [(1, _), (1, _)]) Try.underlying25 (by kernel_rfl) ⟨rfl, by kernel_rfl, opensInts, rfl, by kernel_rfl, opensEdges, rfl⟩).mono fun x h => by
  obtain ⟨_, _, ⟨a, rfl⟩, ⟨_, _, ⟨b, rfl⟩, rfl, rfl⟩, rfl⟩ := h
  exact ⟨⟨a, b⟩, rfl⟩
theorem opensMorphism : Opens Try.prog 41 (fun x => ∃ g, x = mcs g) := (opens_struct (n := 2) (Ss := [(1, _), (1, _)]) Try.underlying41 (by kernel_rfl) ⟨rfl, by kernel_rfl, opensInts, rfl, by kernel_rfl, opensInts, rfl⟩).mono fun x h => by
  obtain ⟨_, _, ⟨a, rfl⟩, ⟨_, _, ⟨b, rfl⟩, rfl, rfl⟩, rfl⟩ := h
  exact ⟨⟨a, b⟩, rfl⟩
end Go.Sy
