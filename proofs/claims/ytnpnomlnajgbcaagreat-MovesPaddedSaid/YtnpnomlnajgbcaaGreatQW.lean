/- The walks in use. Conditions: none. -/
import Derived.Test.YtnpnomlnajgbcaaGreatQ6W2
