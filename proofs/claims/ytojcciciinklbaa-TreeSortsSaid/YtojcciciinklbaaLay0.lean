/- Archives: what is laid of a node. Plain laws. No claim by itself. -/
import Derived.Test.YtojcciciinklbaaNode
set_option linter.unusedSimpArgs false
set_option linter.unusedVariables false
namespace Go.Proofs.Ytojcciciinklbaa
open Go.RowKit

/-- A number as so many bytes. -/
def numB : Nat → Int → List UInt8
  | 0, _ => []
  | k + 1, n => UInt8.ofNat (n % 256).toNat :: numB k (n / 256)
theorem numB_len : ∀ (k : Nat) (n : Int), (numB k n).length = k
  | 0, _ => rfl
  | k + 1, n => by simp [numB, numB_len k]
def shortB (s : ByteArray) : List UInt8 := numB 1 s.size ++ s.data.toList
theorem shortB_len (s : ByteArray) : (shortB s).length = s.size + 1 := by
  unfold shortB; rw [List.length_append, numB_len, Nat.add_comm]; rfl
def attrsW : List (ByteArray × ByteArray) → List UInt8
  | [] => []
  | a :: r => shortB a.1 ++ shortB a.2 ++ attrsW r
def headW (o : Own) : List UInt8 := numB 1 o.kind ++ shortB o.name ++ numB 2 o.mode ++ numB 4 o.uid ++ numB 4 o.gid ++ numB 8 o.mtime ++ numB 1 o.attrs.length ++ attrsW o.attrs
def tailW (o : Own) : List UInt8 := if o.kind = 2 then numB 4 o.data.length ++ o.data else if o.kind = 3 then shortB o.target else if o.kind = 4 then numB 1 o.major ++ numB 1 o.minor else []
def ownW (o : Own) : List UInt8 := headW o ++ tailW o
mutual
/-- What is laid of a node, and of all below it. -/
def layN : Nd → List UInt8
  | .mk o ks => ownW o ++ (if o.kind = 1 then layK ks ++ [0] else [])
def layK : List Nd → List UInt8
  | [] => []
  | k :: r => layN k ++ layK r
end
theorem layK_app : ∀ (xs ys : List Nd), layK (xs ++ ys) = layK xs ++ layK ys
  | [], ys => rfl
  | x :: xs, ys => by simp [layK, layK_app xs ys]
theorem layK_take {xs : List Nd} {k : Nat} (h : k < xs.length) : layK (xs.take (k + 1)) = layK (xs.take k) ++ layN xs[k] := by
  rw [List.take_succ_eq_append_getElem h, layK_app]; simp [layK]
theorem attrsW_app : ∀ (xs ys : List (ByteArray × ByteArray)), attrsW (xs ++ ys) = attrsW xs ++ attrsW ys
  | [], ys => rfl
  | x :: xs, ys => by simp [attrsW, attrsW_app xs ys]
theorem attrsW_take {xs : List (ByteArray × ByteArray)} {k : Nat} (h : k < xs.length) : attrsW (xs.take (k + 1)) = attrsW (xs.take k) ++ shortB xs[k].1 ++ shortB xs[k].2 := by
  rw [List.take_succ_eq_append_getElem h, attrsW_app]; simp [attrsW]

end Go.Proofs.Ytojcciciinklbaa
