/- The law TreeDeep: the plain law of its tree. No claim by itself. -/
import Derived.Test.YtojcciciinklbaaTree13
set_option linter.unusedSimpArgs false
set_option linter.unusedVariables false
namespace Go.Proofs.Ytojcciciinklbaa
open Go.RowKit

def fname (i : Nat) : ByteArray := ⟨#[102, UInt8.ofNat (48 + i / 10), UInt8.ofNat (48 + i % 10)]⟩
def fileN (i : Nat) : Nd := .mk (exO 2 (fname i)) []
def filesN (k : Nat) : List Nd := (List.range k).map fileN
def dirsN (k : Nat) : Nat → Nd
  | 0 => .mk (exO 1 ⟨#[100]⟩) (filesN k)
  | d + 1 => .mk (exO 1 ⟨#[100]⟩) [dirsN k d]
def rootN (k d : Nat) : Nd := .mk (exO 1 ⟨#[]⟩) (dirsN k d).kids
theorem filesN_succ (k : Nat) : filesN (k + 1) = filesN k ++ [fileN k] := by simp [filesN, List.range_succ]
theorem filesN_length (k : Nat) : (filesN k).length = k := by simp [filesN]
theorem dirsN_own (k d : Nat) : (dirsN k d).own = exO 1 ⟨#[100]⟩ := by cases d <;> rfl

theorem countL_files : ∀ l : List Nat, countL (l.map fileN) = l.length
  | [] => rfl
  | i :: l => by simp [countL, countL_files l, fileN, count]; omega
theorem depthL_files : ∀ l : List Nat, depthL (l.map fileN) = if l = [] then 0 else 1
  | [] => rfl
  | i :: l => by
    rw [List.map_cons, depthL, depthL_files l]
    simp [fileN, depth, depthL]
    split <;> rfl
theorem count_dirs (k : Nat) : ∀ d, count (dirsN k d) = k + d + 1
  | 0 => by rw [dirsN, count, filesN, countL_files]; simp
  | d + 1 => by rw [dirsN, count, countL, countL, count_dirs k d]; omega
theorem depth_dirs (k : Nat) (hk : 0 < k) : ∀ d, depth (dirsN k d) = d + 1
  | 0 => by
    rw [dirsN, depth, filesN, depthL_files]
    rw [if_neg (by intro e; have := congrArg List.length e; simp at this; omega)]
  | d + 1 => by rw [dirsN, depth, depthL, depthL, depth_dirs k hk d]; omega
theorem count_root (k d : Nat) : count (rootN k d) = k + d + 1 := by
  rw [rootN, count]; have := count_dirs k d; rw [count_eq] at this; exact this
theorem depth_root (k d : Nat) (hk : 0 < k) : depth (rootN k d) = d + 1 := by
  rw [rootN, depth]; have := depth_dirs k hk d; rw [depth_eq] at this; exact this

theorem fname_ok : ∀ i, i < 100 → nameB (fname i) = true := by decide +kernel
theorem fname_lt' : ∀ i, i < 99 → Op.bytesLess (fname i).data.toList (fname (i + 1)).data.toList = true := by decide +kernel
theorem fname_lt (i : Nat) (h : i < 99) : ltS (fname i) (fname (i + 1)) = true := by
  unfold ltS; rw [ByteArray.toList_eq, ByteArray.toList_eq]; exact fname_lt' i h
theorem nameB_d : nameB ⟨#[100]⟩ = true := by decide
theorem form_file (i : Nat) : formB (fileN i) = true := by simp [fileN, formB, oddL, ownB_ex, risesB_nil]
theorem odd_files (k : Nat) (hk : k < 100) : (filesN k).any oddN = false := by
  rw [List.any_eq_false]
  intro x hx
  simp only [filesN, List.mem_map, List.mem_range] at hx
  obtain ⟨i, hi, rfl⟩ := hx
  have h1 : nameB (fileN i).own.name = true := fname_ok i (by omega)
  simp [oddN, h1, form_file]
theorem rises_files (k : Nat) (hk : k < 100) : risesB (·.own.name) (filesN k) = true := risesB_true.2 fun j hj => by
  rw [filesN_length] at hj
  simp only [filesN, List.getElem_map, List.getElem_range, fileN, Nd.own, exO]
  exact fname_lt j (by omega)
theorem form_of (s : ByteArray) (ks : List Nd) (h1 : ks.any oddN = false) (h2 : risesB (·.own.name) ks = true) : formB (.mk (exO 1 s) ks) = true := by
  rw [formB_eq]
  simp only [Nd.kids, h1, h2, ownB_ex 1 s ks (.inl rfl)]
  rfl
theorem odd_dir (k : Nat) (hk : k < 100) : ∀ d, (dirsN k d).kids.any oddN = false ∧ risesB (·.own.name) (dirsN k d).kids = true
  | 0 => ⟨odd_files k hk, rises_files k hk⟩
  | d + 1 => by
    obtain ⟨h1, h2⟩ := odd_dir k hk d
    have hf : formB (dirsN k d) = true := by
      have : dirsN k d = .mk (exO 1 ⟨#[100]⟩) (dirsN k d).kids := by cases d <;> rfl
      rw [this]; exact form_of _ _ h1 h2
    refine ⟨?_, risesB_one _ _⟩
    have h3 : nameB (dirsN k d).own.name = true := by rw [dirsN_own]; exact nameB_d
    show [dirsN k d].any oddN = false
    simp [oddN, hf, h3]
theorem form_root (k d : Nat) (hk : k < 100) : formB (rootN k d) = true := form_of _ _ (odd_dir k hk d).1 (odd_dir k hk d).2
theorem may_root (k d : Nat) (hk : k < 100) (h0 : 0 < k) : mayI (rootN k d) = if 6 < d + 1 ∨ 64 < k + d + 1 then 3 else 0 := by
  have hr : rootB (rootN k d) = true := by simp [rootB, rootN, exO, Nd.own, ByteArray.size]
  simp only [mayI, hr, form_root k d hk, count_root, depth_root k d h0]
  simp
end Go.Proofs.Ytojcciciinklbaa
