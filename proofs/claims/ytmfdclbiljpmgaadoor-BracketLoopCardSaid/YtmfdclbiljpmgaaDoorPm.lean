/- Layer 19, plain: terms, and the polynomial by as many steps as are granted. -/
import Derived.Test.YtmfdclbiljpmgaaDoorPl
set_option linter.unusedSimpArgs false
set_option linter.unusedVariables false
namespace Go.Proofs.YtmfdclbiljpmgaaDoor
def fitB (v l : Int) : Bool := decide (-l ≤ v) && decide (v ≤ l)
def cfits (p : List (Int × Int)) : Prop := ∀ t ∈ p, -1125899906842624 ≤ t.2 ∧ t.2 ≤ 1125899906842624
def mrg (f : Int → Int → Int) (p q : List (Int × Int)) : List (Int × Int) := match p, q with
  | [], [] => []
  | (e, a) :: p, [] => (e, f a 0) :: mrg f p []
  | [], (e, b) :: q => (e, f 0 b) :: mrg f [] q
  | (e, a) :: p, (e', b) :: q => if e < e' then (e, f a 0) :: mrg f p ((e', b) :: q) else if e' < e then (e', f 0 b) :: mrg f ((e, a) :: p) q else (e, f a b) :: mrg f p q
termination_by p.length + q.length
def cmbOk (l : List (Int × Int)) : Bool := l.all fun t => fitB t.2 1125899906842624
def nz (l : List (Int × Int)) : List (Int × Int) := l.filter fun t => t.2 != 0
def addF (a b : Int) : Int := a + b
def negF (_ b : Int) : Int := -b
def shP (k : Int) (p : List (Int × Int)) : List (Int × Int) := p.map fun t => (t.1 + k, t.2)
def mrgN (f : Int → Int → Int) : Nat → List (Int × Int) → List (Int × Int) → List (Int × Int)
  | 0, _, _ => []
  | n + 1, p, q => match p, q with
    | [], [] => []
    | (e, a) :: p, [] => (e, f a 0) :: mrgN f n p []
    | [], (e, b) :: q => (e, f 0 b) :: mrgN f n [] q
    | (e, a) :: p, (e', b) :: q => if e < e' then (e, f a 0) :: mrgN f n p ((e', b) :: q) else if e' < e then (e', f 0 b) :: mrgN f n ((e, a) :: p) q else (e, f a b) :: mrgN f n p q
theorem mrgN_eq (f : Int → Int → Int) : ∀ (n : Nat) (p q : List (Int × Int)), p.length + q.length ≤ n → mrgN f n p q = mrg f p q
  | 0, p, q, h => by
    obtain rfl : p = [] := List.length_eq_zero_iff.1 (by omega)
    obtain rfl : q = [] := List.length_eq_zero_iff.1 (by omega)
    simp [mrgN, mrg]
  | n + 1, [], [], _ => by simp [mrgN, mrg]
  | n + 1, (e, a) :: p, [], h => by
    simp only [List.length_cons, List.length_nil] at h
    simp only [mrgN]; unfold mrg; rw [mrgN_eq f n p [] (by simp; omega)]
  | n + 1, [], (e, b) :: q, h => by
    simp only [List.length_cons, List.length_nil] at h
    simp only [mrgN]; unfold mrg; rw [mrgN_eq f n [] q (by simp; omega)]
  | n + 1, (e, a) :: p, (e', b) :: q, h => by
    simp only [List.length_cons] at h
    simp only [mrgN]; unfold mrg
    rw [mrgN_eq f n p ((e', b) :: q) (by simp; omega), mrgN_eq f n ((e, a) :: p) q (by simp; omega), mrgN_eq f n p q (by omega)]
def pgB (p : List (Int × Int)) : Bool := (p.all fun t => fitB t.1 1048575 && fitB t.2 1125899906842624) && decide (p.length ≤ 500000) && (match p with | a :: b :: _ => decide (a.1 ≤ b.1) | _ => true)
theorem pgB_c {p : List (Int × Int)} (h : pgB p = true) : cfits p := fun t ht => by
  simp only [pgB, Bool.and_eq_true, List.all_eq_true] at h
  have := (h.1.1 t ht).2
  simp only [fitB, Bool.and_eq_true, decide_eq_true_eq] at this
  omega
theorem pgB_e {p : List (Int × Int)} (h : pgB p = true) : ∀ t ∈ p, -1048575 ≤ t.1 ∧ t.1 ≤ 1048575 := fun t ht => by
  simp only [pgB, Bool.and_eq_true, List.all_eq_true] at h
  have := (h.1.1 t ht).1
  simp only [fitB, Bool.and_eq_true, decide_eq_true_eq] at this
  omega
theorem pgB_l {p : List (Int × Int)} (h : pgB p = true) : p.length ≤ 500000 := by
  simp only [pgB, Bool.and_eq_true, decide_eq_true_eq] at h; exact h.1.2
theorem pgB_o {p : List (Int × Int)} (h : pgB p = true) : 1 < p.length → (p.getD 0 (0, 0)).1 ≤ (p.getD 1 (0, 0)).1 := by
  simp only [pgB, Bool.and_eq_true] at h
  have h := h.2
  match p, h with
  | [], _ => intro h; simp at h
  | [_], _ => intro h; simp at h
  | a :: b :: r, h => intro _; simpa using h
def rsNeg (neg : Bool) (p : List (Int × Int)) : List (Int × Int) := if neg then nz (mrgN negF p.length [] p) else p
def rsSum (q p : List (Int × Int)) : List (Int × Int) := mrgN addF (q.length + p.length) q p
def rsM : Nat → List Int → List Int → Int → Option (List (Int × Int))
  | 0, _, _, _ => none
  | n + 1, s, m, L => if 0 < L ∧ 0 < s.length then some [] else if L ≤ 62 then (if validB s m L then (match badO s m with
      | some c => match rsM n (smS s c.toNat) (smM s m c.toNat) (smLp s m c.toNat L), rsM n (swS s c.toNat) (swM s m c.toNat) L with
        | some p, some q => if pgB p && pgB (shP 1 p) && cmbOk (mrgN negF (shP 1 p).length [] (shP 1 p)) && pgB (rsNeg (decide (s.getD c.toNat 0 < 0)) (shP 1 p)) && pgB q && cmbOk (rsSum q (rsNeg (decide (s.getD c.toNat 0 < 0)) (shP 1 p))) then some (nz (rsSum q (rsNeg (decide (s.getD c.toNat 0 < 0)) (shP 1 p)))) else none
        | _, _ => none
      | none => if ((strandsM s m).length : Int) + L = 1 then some [(0, 1)] else some []) else some []) else none
def pz2 (q : List (Int × Int)) (low e c : Int) : Nat → List Int → List Int
  | 0, zs => zs
  | j + 1, zs => (pz2 q low e c j zs).set (e + (q.getD j (0, 0)).1 - low).toNat ((pz2 q low e c j zs).getD (e + (q.getD j (0, 0)).1 - low).toNat 0 + c * (q.getD j (0, 0)).2)
def pz1 (p q : List (Int × Int)) (low : Int) : Nat → List Int → List Int
  | 0, zs => zs
  | i + 1, zs => pz2 q low (p.getD i (0, 0)).1 (p.getD i (0, 0)).2 q.length (pz1 p q low i zs)
theorem pz2_len (q : List (Int × Int)) (low e c : Int) : ∀ j zs, (pz2 q low e c j zs).length = zs.length
  | 0, zs => rfl
  | j + 1, zs => by simp only [pz2, List.length_set]; exact pz2_len q low e c j zs
theorem pz1_len (p q : List (Int × Int)) (low : Int) : ∀ i zs, (pz1 p q low i zs).length = zs.length
  | 0, zs => rfl
  | i + 1, zs => by simp only [pz1]; rw [pz2_len, pz1_len]
def tmI : Int → List Int → List (Int × Int)
  | _, [] => []
  | e, c :: r => if c = 0 then tmI (e + 1) r else (e, c) :: tmI (e + 1) r
theorem tmI_snoc : ∀ (e : Int) (l : List Int) (c : Int), tmI e (l ++ [c]) = tmI e l ++ (if c = 0 then [] else [(e + l.length, c)])
  | e, [], c => by simp only [List.nil_append, tmI, List.length_nil]; split <;> simp
  | e, x :: l, c => by
    have := tmI_snoc (e + 1) l c
    simp only [List.cons_append, tmI, this, List.length_cons]
    have h : e + 1 + (l.length : Int) = e + ((l.length + 1 : Nat) : Int) := by omega
    rw [h]
    split <;> split <;> simp
theorem tmI_len : ∀ (e : Int) (l : List Int), (tmI e l).length ≤ l.length
  | _, [] => Nat.le_refl _
  | e, c :: r => by
    have := tmI_len (e + 1) r
    simp only [tmI]; split <;> simp only [List.length_cons] <;> omega
abbrev lowE (p : List (Int × Int)) : Int := (p.getD 0 (0, 0)).1
abbrev highE (p : List (Int × Int)) : Int := (p.getD (p.length - 1) (0, 0)).1
def mulZ (p q : List (Int × Int)) : List Int := pz1 p q (lowE p + lowE q) p.length (List.replicate (highE p + highE q - (lowE p + lowE q) + 1).toNat 0)
end Go.Proofs.YtmfdclbiljpmgaaDoor
