/-
  Arguments opened: slices of bytes.
-/
import Derived.ProofKit
import Derived.SizedLaws
import Derived.Deep.Slices
import Derived.Deep.Matrix
import Derived.Deep.Fields
import Derived.Lib.SmallJoins
import Derived.Test.YtdakdpfofgkjoaaGreatDoorZXX
import Derived.Test.YtdakdpfofgkjoaaGreatDoorZ42
set_option linter.unusedVariables false
set_option linter.unusedSimpArgs false
namespace Go.Proofs.YtdakdpfofgkjoaaGreatDoor
open Go.ChangeShapes Go.WideShapes Go.RowKit Go.Deep Go.Joins

theorem cells_byteY : Tryz.prog.cellsOf 5 = 1 := by kernel_rfl
theorem bytes_byteY : Tryz.prog.bytesOf 5 = 1 := by kernel_rfl
theorem byte_range {n : Int} (h : (Lit.int .u8 n).wf = true) : 0 ≤ n ∧ n ≤ 255 := by
  have h1 : IntKind.u8.min = 0 := rfl
  have h2 : IntKind.u8.max = 255 := rfl
  simp only [Lit.wf, Bool.and_eq_true, decide_eq_true_eq] at h
  omega
section
variable {H : Type} {enc : TypeId × Value → H} {w : World} {base : Nat} {held : Bool}
/-- A slice of one-cell elements that came in. -/
theorem open_one {t e : TypeId} {n : Nat} {v : Value} {y : DataW H × List MemPlace} (ht : Tryz.prog.underlying t = some (.slice e)) (hc : Tryz.prog.cellsOf e = 1) (hby : 1 ≤ Tryz.prog.bytesOf e) (h : DataW.trod enc Tryz.prog w base (fun _ => true) held n t [v] = some y) (hl : Light Tryz.prog t y.1) :
    ∃ (A : Option Addr) (c : Nat) (vs : List Value), v = .slice A vs.length c ∧ Rd w (· < w.heap.size) 1 A vs.length c vs ∧ ∀ (i : Nat) (u : Value), vs[i]? = some u → ∃ (k : Nat) (z : DataW H × List MemPlace), DataW.trod enc Tryz.prog w base (fun _ => true) held k e [u] = some z ∧ Light Tryz.prog e z.1 := by
  rcases open_slice1 ht hc h with ⟨hv, rfl⟩ | ⟨a, len, cap, m, k, V, D, Pl, hv, hb, hlc, hcm, hmm, rfl, hx⟩
  · obtain rfl : v = .slice none 0 0 := by simpa using hv
    exact ⟨none, 0, [], rfl, Rd.nil _ _ 1 _ (by omega), fun i u hu => by simp at hu⟩
  · obtain rfl : v = .slice (some a) len cap := by simpa using hv
    simp only [if_true] at hmm
    obtain rfl : cap = m := hmm.symm
    obtain ⟨h8, hin⟩ := light_slice ht hl
    simp only [List.length_map, List.length_range, reachBytes] at h8
    have h9 : len + (cap - len) ≤ (len + (cap - len)) * Tryz.prog.bytesOf e := Nat.le_mul_of_pos_right _ hby
    have hvl : ((List.range len).map V).length = len := by simp
    refine ⟨some a, cap, (List.range len).map V, by rw [hvl], ⟨⟨by simp, by rw [hvl]; omega, by rw [hvl]; exact hlc, hcm⟩, fun hn => ?_⟩, fun i u hu => ?_⟩
    · rw [hvl] at hn
      obtain ⟨ha, hlt⟩ := plain_addr (hx 0 (by omega)).1
      refine ⟨a.block, a.off, by rw [← ha], hlt, hlt, fun j u hu => ?_⟩
      have hj : j < len := by
        rcases Nat.lt_or_ge j len with h | h
        · exact h
        · rw [List.getElem?_eq_none (by rw [hvl]; exact h)] at hu; cases hu
      have := (hx j (by omega)).1
      rw [ha, add_at] at this
      rw [this]
      simpa [hj] using hu
    · have hj : i < len := by
        rcases Nat.lt_or_ge i len with h | h
        · exact h
        · rw [List.getElem?_eq_none (by rw [hvl]; exact h)] at hu; cases hu
      have hu2 : V i = u := by simpa [hj] using hu
      exact ⟨k, _, by rw [← hu2]; exact (hx i (by omega)).2, hin _ (List.mem_map.2 ⟨i, by simp [hj], rfl⟩)⟩
/-- Values that are told one by one are told by a list. -/
theorem values_list {α : Type} (d : α) (g : α → Value) {vs : List Value} {P : α → Prop} (h : ∀ (i : Nat) (u : Value), vs[i]? = some u → ∃ x, u = g x ∧ P x) : ∃ zs : List α, vs = zs.map g ∧ zs.length = vs.length ∧ ∀ i, i < zs.length → P (zs.getD i d) := by
  obtain ⟨zs, hl, hz⟩ := exists_list d (n := vs.length) (P := fun i x => vs[i]? = some (g x) ∧ P x) fun i hi => by
    obtain ⟨x, e, hp⟩ := h i vs[i] (List.getElem?_eq_getElem hi)
    exact ⟨x, by rw [List.getElem?_eq_getElem hi, e], hp⟩
  refine ⟨zs, List.ext_getElem? fun i => ?_, hl, fun i hi => (hz i (by omega)).2⟩
  rw [List.getElem?_map]
  by_cases hi : i < vs.length
  · rw [(hz i hi).1]
    simp [List.getD, hl, hi]
  · rw [List.getElem?_eq_none (by omega), List.getElem?_eq_none (by omega)]; rfl
theorem open_Y {n : Nat} {v : Value} {y : DataW H × List MemPlace} (h : DataW.trod enc Tryz.prog w base (fun _ => true) held n 41 [v] = some y) (hl : Light Tryz.prog 41 y.1) :
    ∃ (A : Option Addr) (c : Nat) (zs : List Int), v = .slice A zs.length c ∧ RdY w (· < w.heap.size) A c zs := by
  obtain ⟨A, c, vs, rfl, hr, he⟩ := open_one Tryz.underlying41 cells_byteY (by rw [bytes_byteY]; omega) h hl
  obtain ⟨zs, rfl, hzl, hz⟩ := values_list (0 : Int) (fun z => Value.int .u8 z) (P := fun z => 0 ≤ z ∧ z ≤ 255) (vs := vs) fun i u hu => by
    obtain ⟨k, z, ht, _⟩ := he i u hu
    obtain ⟨x, hx, _, hw⟩ := DataW.trod_int Tryz.underlying5 ht
    exact ⟨x, by simpa using hx, byte_range hw⟩
  rw [← hzl] at hr ⊢
  exact ⟨A, c, zs, rfl, hr, hz⟩
theorem open_YT {v : Value} {d : DataW H} {p : List MemPlace} (hc : v.cells = #[v]) (h : DataW.Trod enc Tryz.prog w base (fun _ => true) held 41 v d p) (hl : Light Tryz.prog 41 d) :
    ∃ (A : Option Addr) (c : Nat) (zs : List Int), v = .slice A zs.length c ∧ RdY w (· < w.heap.size) A c zs := by
  obtain ⟨n, hn⟩ := h
  rw [hc] at hn
  exact open_Y hn hl
end
end Go.Proofs.YtdakdpfofgkjoaaGreatDoor
