/- Graphs and their kin as abstract values. -/
import Derived.Test.YtkhheblmgbiniaaC1
namespace Go.Sy
open Go Go.Proofs

abbrev Ed := Int × Int × Int
structure Gr where
  n : List Int
  e : List Ed
  deriving DecidableEq
structure Mo where
  n : List Int
  e : List Int
  deriving DecidableEq
structure Ov where
  g : Gr
  l : Mo
  r : Mo
  deriving DecidableEq
structure Qu where
  g : Gr
  o : Mo
  deriving DecidableEq
def iv (n : Int) : AV := .v (.int .i64 n)
def bv (b : Bool) : AV := .v (.bool b)
def ecs (x : Ed) : List AV := [iv x.1, iv x.2.1, iv x.2.2]
def lvT (l : List Int) (tk : Tok) : AV := .list 1 (l.map fun n => [iv n]) tk
def elT' (l : List Ed) (tk : Tok) : AV := .list 3 (l.map ecs) tk
def lv (l : List Int) : AV := lvT l .no
def elv (l : List Ed) : AV := elT' l .no
def gcs (g : Gr) : List AV := [lv g.n, elv g.e]
def mcs (m : Mo) : List AV := [lv m.n, lv m.e]
def gv (g : Gr) : AV := .agg (gcs g)
def mv (m : Mo) : AV := .agg (mcs m)
def ocs (o : Ov) : List AV := gcs o.g ++ mcs o.l ++ mcs o.r
def ov (o : Ov) : AV := .agg (ocs o)
def qcs (q : Qu) : List AV := gcs q.g ++ mcs q.o
def qv (q : Qu) : AV := .agg (qcs q)
def olv (l : List Ov) : AV := .list 6 (l.map ocs) .no
def qlv (l : List Qu) : AV := .list 4 (l.map qcs) .no
theorem len_list1 (l : List Int) : ((l.map fun n => [iv n]).length : Int) = l.length := by simp
attribute [go_sem] iv bv ecs lvT elT' lv elv gcs mcs gv mv ocs ov qcs qv olv qlv List.length_map List.getElem_map List.head?_cons List.cons_append List.nil_append and_self true_and and_true
theorem wrapN (i : Nat) (h : (i : Int) ≤ 9223372036854775806) : IntKind.i64.wrap ((i : Int) + 1) = ((i + 1 : Nat) : Int) := by rw [wrap_i64 _ (by omega) (by omega)]; rfl
theorem lt_cast (i n : Nat) : ((i : Int) < (n : Int)) = (i < n) := by simp
theorem le_cast (i n : Nat) : ((i : Int) ≤ (n : Int)) = (i ≤ n) := by simp
theorem getD_zero' {α : Type} (x d : α) (l : List α) : (x :: l).getD 0 d = x := rfl
theorem getD_succ' {α : Type} (x d : α) (l : List α) (n : Nat) : (x :: l).getD (n + 1) d = l.getD n d := rfl
theorem getD_nil' {α : Type} (d : α) (n : Nat) : ([] : List α).getD n d = d := by simp
attribute [go_sem] lt_cast le_cast List.length_cons List.length_nil List.drop_zero List.drop_succ_cons List.drop_nil List.take_zero List.take_succ_cons List.take_nil Nat.zero_add Nat.add_zero List.getD_cons_zero List.getD_cons_succ getD_nil' if_true if_false
  List.all_cons List.all_nil Bool.and_true Bool.true_and List.map_cons List.map_nil List.append_nil decide_true decide_false eq_self
attribute [go_sem] Option.getD_some Option.getD_none Prod.mk.injEq false_and and_false Bool.not_false Bool.not_true Bool.false_and Bool.and_false not_true_eq_false not_false_eq_true Bool.false_eq_true Bool.true_eq_false
variable {s : St}
theorem finB {b c : Bool} (h : c = b) : fin s (.v (.bool b)) (.v (.bool c)) := h ▸ finK ⟨rfl, rfl⟩
theorem finP {p q : Prop} [Decidable p] [Decidable q] (h : q ↔ p) : fin s (.v (.bool (decide p))) (.v (.bool (decide q))) := finB (decide_eq_decide.2 h)
theorem finT {q : Prop} [Decidable q] (h : q) : fin s (.v (.bool true)) (.v (.bool (decide q))) := finB (decide_eq_true h)
theorem finF' {q : Prop} [Decidable q] (h : ¬ q) : fin s (.v (.bool false)) (.v (.bool (decide q))) := finB (decide_eq_false h)
theorem finI {n m : Int} (h : m = n) : fin s (.v (.int .i64 n)) (.v (.int .i64 m)) := h ▸ finK ⟨rfl, rfl⟩
theorem finL {sz : Nat} {xs ys : List (List AV)} {tk : Tok} (h : ys = xs) : fin s (.list sz xs tk) (.list sz ys .no) := h ▸ finK ⟨rfl, rfl⟩
theorem conTN {X : Hints} {f : FuncId} {fn : Func} {c : Code} {rs : List ResultVar} {args : List AV} {n : Nat} {r : AV} (hf : Try.prog.funcs[f]? = some fn) (hname : (fn.name == "runtime.NumGoroutine") = false) (hb : fn.body = some c)
    (hrs : fn.results.toList = rs) (hN : (dstOK fn.ntmps c && draws (drawOK Try.prog) X c && decide (args.length ≤ fn.ntmps)) = true) (h : acode Try.prog X c (retN Try.prog rs n r) (s0 args)) : Con Try.prog f args n r :=
  con_ofN (drawOK_ok (by kernel_rfl)) hf hname hb hrs hN h
theorem partsAV_nil (n k : Nat) : partsAV n k [] = some [] := rfl
theorem partsAV_cons (n k i : Nat) (x : AV) (r : List (Nat × AV)) : partsAV n k ((i, x) :: r) = (cells? x).bind fun c => if i = k ∧ c.length = n ∧ (c.all fun x => clean (fgt x)) = true then (partsAV n (k + 1) r).map ((c.map fgt) :: ·) else none := by
  simp only [partsAV]
  cases cells? x <;> rfl
theorem fillAV_nil (pl : Nat → Option (Nat × Nat)) (l : List AV) : fillAV pl l [] = some l := rfl
theorem fillAV_cons (pl : Nat → Option (Nat × Nat)) (l : List AV) (i : Nat) (x : AV) (r : List (Nat × AV)) : fillAV pl l ((i, x) :: r) = (pl i).bind fun q => (cells? x).bind fun c => if c.length = q.2 ∧ q.1 + q.2 ≤ l.length then fillAV pl (l.take q.1 ++ c ++ l.drop (q.1 + q.2)) r else none := by
  simp only [fillAV]
  cases pl i with
  | none => rfl
  | some q => obtain ⟨a, b⟩ := q; cases cells? x <;> rfl
theorem tokOK_set (d : Nat) (x : AV) (tk : Tok) : tokOK (s.set d x) tk = tokOK s tk := by cases tk <;> rfl
theorem tokOK_nbox (d : Nat) (x : AV) (l : List AV) (tk : Tok) : tokOK (s.nbox d x l) tk = tokOK s tk := by cases tk <;> rfl
theorem tokOK_sbox (k : Key) (l : List AV) (tk : Tok) : tokOK (s.sbox k l) tk = tokOK s tk := by cases tk <;> rfl
theorem tokOK_ntok (d n : Nat) (x : AV) (tk : Tok) (h : tokOK s tk = true) : tokOK (s.ntok d n x none) tk = true := by
  cases tk with
  | own k => simp only [tokOK, ntok_d, killO_none, crt_at] at h ⊢; split <;> simp_all
  | no => exact h
  | nil => exact h
theorem tokOK_new (d n : Nat) (x : AV) (kl : Option Key) : tokOK (s.ntok d (n + 1) x kl) (.own (d, s.g d, 0)) = true := by simp [tokOK, ntok_d, crt_at]
attribute [go_sem] partsAV_nil partsAV_cons fillAV_nil fillAV_cons tokOK_set tokOK_nbox tokOK_sbox tokOK_ntok tokOK_new List.getElem?_toArray List.getElem?_cons_zero List.getElem?_cons_succ
theorem ndec {p : Prop} [Decidable p] (h : (!decide p) = true) : ¬ p := by simpa only [Bool.not_eq_true', decide_eq_false_iff_not] using h
theorem ydec {p : Prop} [Decidable p] (h : (!decide p) = false) : p := by simpa only [Bool.not_eq_false', decide_eq_true_eq] using h
theorem take_all {α : Type} {l : List α} {i : Nat} (h : i < l.length) {p : α → Prop} (h1 : ∀ x ∈ l.take i, p x) (h2 : p l[i]) : ∀ x ∈ l.take (i + 1), p x := by
  intro x hx
  rw [List.take_add_one, List.getElem?_eq_getElem h] at hx
  rcases List.mem_append.1 hx with hx | hx
  · exact h1 x hx
  · simp at hx; exact hx ▸ h2
theorem take_full {α : Type} {l : List α} {i : Nat} (h : ¬ i < l.length) {p : α → Prop} (h1 : ∀ x ∈ l.take i, p x) : ∀ x ∈ l, p x := by
  rwa [List.take_of_length_le (by omega)] at h1
theorem ineq {a b : Int} (h : (a != b) = true) : a ≠ b := by simpa using h
theorem ieq {a b : Int} (h : (a != b) = false) : a = b := by simpa using h
theorem beqT {a b : Int} (h : (a == b) = true) : a = b := by simpa using h
theorem beqF {a b : Int} (h : (a == b) = false) : a ≠ b := by simpa using h
/-- The slots that made a token, with its place. -/
def tkIn (l : List (Nat × Nat)) : Tok → Bool
  | .own k => l.contains (k.1, k.2.2)
  | .nil => true
  | .no => false
theorem kill_tk {l : List (Nat × Nat)} {tk : Tok} (h : tkIn l tk = true) {k : Key} (hk : l.contains (k.1, k.2.2) = false) (f : Key → Bool) : killO f (tokKey tk) k = f k := by
  cases tk with
  | own k1 =>
    have hne : k ≠ k1 := by
      rintro rfl
      have : l.contains (k.1, k.2.2) = true := h
      rw [hk] at this
      cases this
    show killO f (some k1) k = f k
    rw [killO_some, if_neg hne]
  | no => rfl
  | nil => rfl
theorem tk_kill {l1 l2 : List (Nat × Nat)} {t1 t2 : Tok} {d n : Nat} {x : AV} (h1 : tkIn l1 t1 = true) (h2 : tkIn l2 t2 = true) (hd : (l1.all fun a => !l2.contains a) = true) (h : tokOK s t2 = true) : tokOK (s.ntok d n x (tokKey t1)) t2 = true := by
  cases t2 with
  | no => exact h
  | nil => rfl
  | own k2 =>
    cases t1 with
    | own k1 =>
      have hne : k2 ≠ k1 := by
        rintro rfl
        have := List.all_eq_true.1 hd (k2.1, k2.2.2) (by simpa [tkIn] using h1)
        have h2' : l2.contains (k2.1, k2.2.2) = true := h2
        rw [h2'] at this
        simp at this
      simp only [tokOK, ntok_d, tokKey, killO_some, crt_at] at h ⊢
      split
      · rfl
      · first | exact h | (rw [if_neg hne]; exact h)
    | no => exact tokOK_ntok _ _ _ _ h
    | nil => exact tokOK_ntok _ _ _ _ h
theorem bnd_lv {n : Nat} {l : List Int} {tk : Tok} (h : bnd (n + 1) (lvT l tk)) : (l.length : Int) ≤ 9223372036854775807 := by
  have := h.1
  simpa using this
theorem bnd_elv {n : Nat} {l : List Ed} {tk : Tok} (h : bnd (n + 1) (elT' l tk)) : (l.length : Int) ≤ 9223372036854775807 := by
  have := h.1
  simpa using this
end Go.Sy
